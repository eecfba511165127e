/- Own work. -/
import Derived.Test.YtekgjjgbdcgldaaGreatEvOE6
import Derived.Shelf.SlSortCmp.WholeK
set_option linter.all false
def Qja:=@Nat.zero_add
def Qjb:=@List.length_take
def Qjc:=@List.length_append
def Qjd:=@List.mem_cons
def Qje:=@List.mem_cons_of_mem
def Qjf:=@List.mem_cons_self
def Qjg:=@Int.le_of_lt
def Qjh:=@Int.mul_nonneg
def Qji:=@Nat.le_refl
def Qjj:=@List.getElem?_eq_getElem
def Qjk:=@Eq.trans
def Qjl:=@Nat.beq_refl
def Qjm:=@List.length_set
def Qjn:=@Bool.and_true
def Qjo:=@List.take_succ_eq_append_getElem
def Qjp:=@List.pairwise_cons
def Qjq:=@Int.mul_le_mul_of_nonneg_right
def Qjr:=@List.take_append_of_le_length
def Qjs:=@List.eq_nil_of_length_eq_zero
def Qjt:=@Nat.eq_of_beq_eq_true
def Qju:=@Bool.and_eq_true
def Qjv:=@List.length_drop
def Qjw:=@List.getD_eq_getElem?_getD
def Qjx:=@Array.getElem?_append_left
def Qjy:=@List.getElem?_map
def Qjz:=@Nat.zero_le
def Qjaa:=@List.drop_eq_nil_of_le
def Qjab:=@List.findIdx_lt_length_of_exists
def Qjac:=@List.filter_cons
def Qjad:=@Nat.mul_le_mul_right
def Qjae:=@List.append_nil
def Qjaf:=@Int.mul_pos
def Qjag:=@List.filter_append
def Qjah:=@List.findIdx_cons
def Qjai:=@List.append_assoc
def Qjaj:=@Nat.blt_eq
def Qjak:=@List.drop_eq_getElem_cons
def Qjal:=@List.any_eq_true
def Qjam:=@Array.getElem?_eq_none
def Qjan:=@List.take_of_length_le
def Qjao:=@Nat.le_of_ble_eq_true
def Qjap:=@Array.getElem?_modify
def Qjaq:=@List.drop_zero
def Qjar:=@List.getElem_set_self
def Qjas:=@List.length_replicate
def Qjat:=@Nat.lt_irrefl
namespace Go.Ev.Ce
open Go Go.Ev Go.Ev.L Go.Proofs
theorem Ee8(x:List Pln)(y:Pln)(hx:x.length<=1000000):ta2 x y=true:=(ef6 x y hx).g
theorem If3(x:List Pln)(y:Pln)(hx:x.length<=1000000):I9 x y≠[]/\(I9 x y).length<=x.length+1/\∀p∈I9 x y,p=y\/p∈x:=(ef6 x y hx).p
structure Fc(ph:Nat)(out:List Pln)(m:Nat):Prop where
 h:(ph=0/\out=[])\/ph=1
 l:out.length<=m
theorem Fc.more{ph m m':Nat}{out:List Pln}(h:Fc ph out m)(hm:m<=m'):Fc ph out m':=⟨h.h,Nat.le_trans h.l hm⟩
theorem yf1 (l : List V3) (hl : l.length ≤ 48) (a c : Nat) (ha : a < l.length) (hc : c < a) (h0 : Nat) (out : List Pln) (m : Nat) (hm : m ≤ 900000) (hf : Fc h0 out m) :
  ∃t s,lp (Z7 ⟨l,(a:Int),(c:Int)⟩) ⟨h0,0,out⟩=(t,s)/\(t=s.ph+1/\Fc s.ph s.xa7 (m+100)):=by
 refine S3 (step:=Z7 ⟨l,(a:Int),(c:Int)⟩) (mk:=λj (x:Nat×List Pln)=>(⟨x.1,(j:Int),x.2⟩:A6)) c (λj x=>Fc x.1 x.2 (m+2*j)/\j<=48) (λt s=>t=s.ph+1/\Fc s.ph s.xa7 (m+100)) (by omega) (λj x hj hx=>?_) (λj x hj hx=>?_) 0 (h0,out) ⟨hf,by omega⟩
 ·obtain⟨h,o⟩:=x;obtain⟨⟨hx,hx2⟩,_⟩:=hx;have hn:=n8 hj (show c<=4611686018427387904 by omega)
  have hh:∀p,oa0 p l=true:=λp=>Ee7 p l (by omega)
  have hg1:∀y,ta2 o y=true:=λy=>Ee8 o y (by simp only at hx2;omega)
  have hp1:∀y,I9 o y≠[]/\(I9 o y).length<=o.length+1:=λy=>by have:=If3 o y (by simp only at hx2;omega);exact⟨this.1,this.2.1⟩
  have hg2:∀y z,ta2 (I9 o y) z=true:=λy z=>Ee8 _ z (by have:=(hp1 y).2;simp only at hx2;omega)
  have hp2:∀y z,(I9 (I9 o y) z).length<=o.length+2:=λy z=>by
   have:=(If3 (I9 o y) z (by have:=(hp1 y).2;simp only at hx2;omega)).2.1
   have:=(hp1 y).2
   omega
  simp only at hx hx2
  have stay:Fc h o (m+2*(j+1))/\j+1<=48:=⟨⟨hx,by omega⟩,by omega⟩
  have put1:∀y,Fc 1 (I9 o y) (m+2*(j+1))/\j+1<=48:=λy=>⟨⟨.inr rfl,by have:=(hp1 y).2;omega⟩,by omega⟩
  have put2:∀y z,Fc 1 (I9 (I9 o y) z) (m+2*(j+1))/\j+1<=48:=λy z=>⟨⟨.inr rfl,by have:=hp2 y z;omega⟩,by omega⟩
  rcases hx with⟨rfl,rfl⟩|rfl
  ·show Nx (K4 Stp.next Stp.exit Stp.fail _ _) _ _;simp only[K4,Za2,Int.toNat_natCast,g8,o5,hh,hg1,hg2,hn];rw[btD (f9 hj),bt (e8 ha),bt (e8 (show c<l.length by omega)),bt (e8 (show j<l.length by omega))]
   simp only[g7];refine Nx.sl (λ_=>.nx ⟨(0,[]),rfl,stay⟩) λ_=>Nx.sl (λ_=>Nx.sl (λ_=>.nx ⟨(1,_),rfl,put2 _ _⟩) λ_=>.nx ⟨(1,_),rfl,put1 _⟩) λ_=>Nx.sl (λ_=>.nx ⟨(1,_),rfl,put1 _⟩) λ_=>.nx ⟨(0,[]),rfl,stay⟩
  ·show Nx (K5 Stp.next Stp.exit Stp.fail _ _) _ _;simp only[K5,Za2,Int.toNat_natCast,g8,o5,hh,hg1,hg2,hn];rw[btD (f9 hj),bt (e8 ha),bt (e8 (show c<l.length by omega)),bt (e8 (show j<l.length by omega))]
   simp only[g7];refine Nx.sl (λ_=>.nx ⟨(1,o),rfl,stay⟩) λ_=>Nx.sl (λ_=>Nx.sl (λ_=>.nx ⟨(1,_),rfl,put2 _ _⟩) λ_=>.nx ⟨(1,_),rfl,put1 _⟩) λ_=>Nx.sl (λ_=>.nx ⟨(1,_),rfl,put1 _⟩) λ_=>.nx ⟨(1,o),rfl,stay⟩
 ·obtain⟨h,o⟩:=x;obtain⟨⟨hx,hx2⟩,h48⟩:=hx
  simp only at hx hx2
  rcases hx with⟨rfl,rfl⟩|rfl
  ·refine⟨1,?_,rfl,⟨.inl ⟨rfl,rfl⟩,by show 0<=_;omega⟩⟩
   show K4 Stp.next Stp.exit Stp.fail _ _=_;simp only[K4];rw[bfD (by omega)]
  ·refine⟨2,?_,rfl,⟨.inr rfl,by show o.length<=_;omega⟩⟩
   show K5 Stp.next Stp.exit Stp.fail _ _=_;simp only[K5];rw[bfD (by omega)]
theorem yf2 (l : List V3) (hl : l.length ≤ 48) (a : Nat) (ha : a < l.length) (h0 : Nat) (out : List Pln) (m : Nat) (hm : m ≤ 800000) (hf : Fc h0 out m) :
  ∃t s,lp (Z8 ⟨(a:Int)⟩) ⟨h0,l,0,out⟩=(t,s)/\(t=s.ph+1/\Fc s.ph s.xa7 (m+5000)/\s.i5=l):=by
 refine S3 (step:=Z8 ⟨(a:Int)⟩) (mk:=λj (x:Nat×List Pln)=>(⟨x.1,l,(j:Int),x.2⟩:A7)) a (λj x=>Fc x.1 x.2 (m+100*j)/\j<=48) (λt s=>t=s.ph+1/\Fc s.ph s.xa7 (m+5000)/\s.i5=l) (by omega) (λj x hj hx=>?_) (λj x hj hx=>?_) 0 (h0,out) ⟨hf,by omega⟩
 ·obtain⟨h,o⟩:=x;obtain⟨hx,_⟩:=hx;have hn:=n8 hj (show a<=4611686018427387904 by omega)
  simp only at hx
  obtain⟨t,s,e1,e2,e3⟩:=yf1 l hl a j ha hj h o (m+100*j) (by omega) hx
  obtain⟨s1,s2,s3⟩:=s
  simp only at e2 e3
  have go:Fc s1 s3 (m+100*(j+1))/\j+1<=48:=⟨e3.more (by omega),by omega⟩
  rcases hx.h with⟨rfl,rfl⟩|rfl
  ·show Nx (K6 Stp.next Stp.exit Stp.fail _ _) _ _;simp only[K6,g8,i7,hn];rw[btD (f9 hj),e1,e2]
   rcases e3.h with⟨rfl,rfl⟩|rfl
   ·exact .nx ⟨(0,[]),rfl,go⟩
   ·exact .nx ⟨(1,s3),rfl,go⟩
  ·show Nx (K7 Stp.next Stp.exit Stp.fail _ _) _ _;simp only[K7,g8,i7,hn];rw[btD (f9 hj),e1,e2]
   rcases e3.h with⟨rfl,rfl⟩|rfl
   ·exact .nx ⟨(0,[]),rfl,go⟩
   ·exact .nx ⟨(1,s3),rfl,go⟩
 ·obtain⟨h,o⟩:=x;obtain⟨hx,h48⟩:=hx
  simp only at hx
  have h2:=hx.more (show m+100*j<=m+5000 by omega)
  rcases hx.h with⟨rfl,rfl⟩|rfl
  ·refine⟨1,?_,rfl,h2,rfl⟩;show K6 Stp.next Stp.exit Stp.fail _ _=_;simp only[K6];rw[bfD (by omega)]
  ·refine⟨2,?_,rfl,h2,rfl⟩;show K7 Stp.next Stp.exit Stp.fail _ _=_;simp only[K7];rw[bfD (by omega)]
theorem yf3 (l : List V3) (hl : l.length ≤ 48) :
  ∃t s,lp (Aa1 ⟨⟩) ⟨0,l,0,[]⟩=(t,s)/\(t=s.ph+1/\Fc s.ph s.xa7 250000):=by
 refine S3 (step:=Aa1 ⟨⟩) (mk:=λj (x:Nat×List Pln)=>(⟨x.1,l,(j:Int),x.2⟩:C3)) l.length (λj x=>Fc x.1 x.2 (5000*j)/\j<=48) (λt s=>t=s.ph+1/\Fc s.ph s.xa7 250000) (by omega) (λj x hj hx=>?_) (λj x hj hx=>?_) 0 (0,[]) ⟨⟨.inl ⟨rfl,rfl⟩,Qji _⟩,by omega⟩
 ·obtain⟨h,o⟩:=x;obtain⟨hx,_⟩:=hx;have hn:=n8 hj (show l.length<=4611686018427387904 by omega)
  simp only at hx
  obtain⟨t,s,e1,e2,e3,e4⟩:=yf2 l hl j hj h o (5000*j) (by omega) hx
  obtain⟨s1,s2,s3,s4⟩:=s
  simp only at e2 e3 e4
  subst e4;have go:Fc s1 s4 (5000*(j+1))/\j+1<=48:=⟨e3.more (by omega),by omega⟩
  rcases hx.h with⟨rfl,rfl⟩|rfl
  ·show Nx (K8 Stp.next Stp.exit Stp.fail ⟨⟩ _) _ _;simp only[K8,g8,i7,hn];rw[btD (f9 hj),e1,e2]
   rcases e3.h with⟨rfl,rfl⟩|rfl
   ·exact .nx ⟨(0,[]),rfl,go⟩
   ·exact .nx ⟨(1,s4),rfl,go⟩
  ·show Nx (K9 Stp.next Stp.exit Stp.fail ⟨⟩ _) _ _;simp only[K9,g8,i7,hn];rw[btD (f9 hj),e1,e2]
   rcases e3.h with⟨rfl,rfl⟩|rfl
   ·exact .nx ⟨(0,[]),rfl,go⟩
   ·exact .nx ⟨(1,s4),rfl,go⟩
 ·obtain⟨h,o⟩:=x;obtain⟨hx,h48⟩:=hx
  simp only at hx
  have h2:=hx.more (show 5000*j<=250000 by omega)
  rcases hx.h with⟨rfl,rfl⟩|rfl
  ·refine⟨1,?_,rfl,h2⟩;show K8 Stp.next Stp.exit Stp.fail ⟨⟩ _=_;simp only[K8];rw[bfD (by omega)]
  ·refine⟨2,?_,rfl,h2⟩;show K9 Stp.next Stp.exit Stp.fail ⟨⟩ _=_;simp only[K9];rw[bfD (by omega)]
theorem ef7(l:List Pln)(n:Int):(two (r1L tP) r1I).rd (.tup [eL tP l,i n],[])=some (l,n):=by
 have h:(r1L tP).rd [] (eL tP l)=some l:=by
  show Bool.rec (motive:=λ_=>Option (List Pln)) none (some (rt tP l)) (Bool.and (Nat.beq tP.es tP.es) (okE tP l))=_
  rw[g8,o5,Qjl];rfl
 simp only[two,h];rfl
theorem ef8(l:List V3)(hl:l.length<=48):Rd (two (r1L tP) r1I) (La7 l) (λr=>r.1.length<=250000):=by
 obtain⟨t,s,e1,e2,e3⟩:=yf3 l hl;unfold La7;simp only[g8,i7,o5,Id9 l (show l.length<=1000000000 by omega),g7]
 refine Rd.sl (λ_=>⟨_,([],qb5 l),rfl,rfl,Qjz _⟩) λ_=>?_
 rw[e1,e2];obtain⟨s1,s2,s3,s4⟩:=s
 simp only at e3 ⊢
 rcases e3.h with⟨rfl,rfl⟩|rfl
 ·exact⟨_,([],0),rfl,rfl,Qjz _⟩
 ·exact⟨_,(s4,0),rfl,ef7 s4 0,e3.l⟩
theorem yf4(l:List V3)(hl:l.length<=48):Jb9 l=true:=(ef8 l hl).g
def phV(out:List V3):Nat:=match out with
 |[]=>0
 |_::_=>1
theorem Ee9(out:List V3)(x:V3):phV (out++[x])=1:=by cases out<;>rfl
theorem qd1(l:List V3)(x1 x2 x3:Int):app (bL tV l) [[i x1,i x2,i x3]]=bL tV (l++[⟨x1,x2,x3⟩]):=Xa2 tV l [⟨x1,x2,x3⟩]
theorem bg0{l:List V3}{m:Nat}(h:m<l.length):(((Nat.blt (0+m) (len (bL tV l)))&&(Nat.ble (0+3) (len (l9 (bL tV l) (0+m)))))&&(ka1 [CK.int .i64,CK.int .i64,CK.int .i64] (j7 (l9 (bL tV l) (0+m)) 0)))=true:=by
 rw[Qja,ea8 tV h,U9,show Nat.blt m l.length=true from by rw[Qjaj];exact h]
 rfl
theorem bg1{l:List V3}{m:Nat}(h:m<l.length):(((Nat.blt (0+m) (len (bL tV l)))&&(Nat.ble (2+1) (len (l9 (bL tV l) (0+m)))))&&(ka1 [CK.int .i64] (j7 (l9 (bL tV l) (0+m)) 2)))=true:=by
 rw[Qja,ea8 tV h,U9,show Nat.blt m l.length=true from by rw[Qjaj];exact h]
 rfl
theorem If4{n:Nat}{l:List V3}(hn:l.length=n)(h:n<=1000000000):(Nat.beq n (len (bL tV l))&&Nat.ble ((n+1)*24) room)=true:=by
 subst hn;rw[U9,Qjl,Bool.true_and,Nat.ble_eq];unfold room;omega
theorem yf5 (x : List Int) (N : Nat) (h4 : 4 ≤ N) (h8 : N ≤ 8) (j0 : Int) (hj0 : 0 ≤ j0 ∧ j0 ≤ 10) :
  ∃idx out,lp (Wa2 ⟨(N:Int)⟩) ⟨0,0,x,j0,0,[]⟩=(2,⟨1,(N:Int),x,idx,N,bL tV out⟩)/\out.length=N:=by
 have key:=S3 (step:=Wa2 ⟨(N:Int)⟩) (mk:=λj (a:Int×List V3)=>(⟨phV a.2,(j:Int),x,a.1,a.2.length,bL tV a.2⟩:E2)) N
  (λj a=>a.2.length=j/\0<=a.1/\a.1<=10+4*j/\j<=N) (λt s=>t=2/\∃idx out,s=⟨1,(N:Int),x,idx,N,bL tV out⟩/\out.length=N) (by omega) (λj a hj ha=>?_) (λj a hj ha=>?_) 0 (j0,[]) ⟨rfl,hj0.1,by omega,by omega⟩
 ·obtain⟨t,s,e1,rfl,idx,out,e2,e3⟩:=key;exact⟨idx,out,by rw[<- e2];exact e1,e3⟩
 ·obtain⟨at0,out⟩:=a;obtain⟨ho,ha1,ha2,_⟩:=ha
  simp only at ho ha1 ha2
  have hn:=n8 hj (show N<=4611686018427387904 by omega)
  obtain⟨v1,j1,d1,_,_,c1,b1⟩:=va1 17 x at0 ha1 (by omega) (by omega) (by omega)
  obtain⟨v2,j2,d2,_,_,c2,b2⟩:=va1 17 x j1 (by omega) (by omega) (by omega) (by omega)
  obtain⟨v3,j3,d3,_,_,c3,b3⟩:=va1 17 x j2 (by omega) (by omega) (by omega) (by omega)
  obtain⟨v4,j4,d4,_,_,c4,b4⟩:=va1 6 x j3 (by omega) (by omega) (by omega) (by omega)
  have leaf : ∀ (E : Nat → Prop) (x1 x2 x3 : Int), Nx (.next (⟨1, ((j + 1 : Nat) : Int), x, j4, j + 1, bL tV (out ++ [⟨x1, x2, x3⟩])⟩ : E2)) E
    (λs=>∃a':Int×List V3,s=⟨phV a'.2,((j+1:Nat):Int),x,a'.1,a'.2.length,bL tV a'.2⟩/\a'.2.length=j+1/\0<=a'.1/\a'.1<=10+4*((j+1:Nat):Int)/\j+1<=N):=λE x1 x2 x3=>by
   have hl:(out++[(⟨x1,x2,x3⟩:V3)]).length=j+1:=by simp[ho]
   exact .nx ⟨(j4,out++[⟨x1,x2,x3⟩]),by simp only[Ee9,hl],hl,by show 0<=j4;omega,by show j4<=_;omega,by omega⟩
  cases out with
  |nil =>
   have hj0':j=0:=by simpa using ho.symm
   subst hj0';show Nx (Aa2 Stp.next Stp.exit Stp.fail _ _) _ _;simp only[Aa2,g8,i7,d1,d2,d3,d4,hn];rw[btD (f9 hj)];have f1:decide (((0:Nat):Int)>1)=false:=rfl;have f2:decide (((0:Nat):Int)>0)=false:=rfl;have f3:decide (((0:Nat):Int)>2)=false:=rfl;have lf:∀(E:Nat->Prop) (x1 x2 x3:Int),Nx (.next (⟨1,((0+1:Nat):Int),x,j4,1,[[i x1,i x2,i x3]]⟩:E2)) E _:=leaf;simp only[f1,f2,f3,J7,Qjl,Qjn,g7];refine Nx.sl (λ_=>?_) (λ_=>?_)<;>refine Nx.sl (λ_=>?_) (λ_=>?_)
   all_goals first
    |exact lf _ _ _ _
    |(refine Nx.sl (λ_=>?_) (λ_=>?_)<;>exact lf _ _ _ _)
  |cons o os =>
   have h1:1<=j:=by simp only[List.length_cons] at ho;omega
   generalize hO:o::os=O at *
   have hph:phV O=1:=by subst hO;rfl
   have w1:W ((j:Int)-1)=((j-1:Nat):Int):=by rw[ka3 (by omega) (by omega)];omega
   have i1:inB ((j-1:Nat):Int) j=true:=e8 (by omega)
   have r1:=bg0 (l:=O) (m:=j-1) (by omega)
   have r1':=bg1 (l:=O) (m:=j-1) (by omega)
   have rr:=If4 ho (by omega)
   have f2:∀{inst:Decidable ((j:Int)>0)},@decide ((j:Int)>0) inst=true:=decide_eq_true (by omega)
   show Nx (sel (Nat.beq (phV O) 1) (P5 Stp.next Stp.exit Stp.fail _ _) _) _ _;rw[hph];show Nx (P5 Stp.next Stp.exit Stp.fail _ _) _ _;by_cases h2:2<=j
   ·have w2:W ((j:Int)-2)=((j-2:Nat):Int):=by rw[ka3 (by omega) (by omega)];omega
    have i2:inB ((j-2:Nat):Int) j=true:=e8 (by omega)
    have r2:=bg0 (l:=O) (m:=j-2) (by omega)
    simp only[P5,g8,i7,d1,d2,d3,d4,hn,ho,w1,w2,i1,i2,Int.toNat_natCast,r1,r1',r2,rr,qd1];rw[btD (f9 hj)];simp only[Qjl,Qjn,g7]
    repeat' (first | exact leaf _ _ _ _ | refine Nx.sl (λ_=>?_) (λ_=>?_))
   ·have hj1:j=1:=by omega
    subst hj1;simp only[P5,g8,i7,d1,d2,d3,d4,hn,ho,w1,i1,Int.toNat_natCast,r1,r1',rr,qd1];have f1:decide (((1:Nat):Int)>1)=false:=rfl;rw[btD (f9 hj)];simp only[f1,J7,Qjl,Qjn,g7]
    repeat' (first | exact leaf _ _ _ _ | refine Nx.sl (λ_=>?_) (λ_=>?_))
 ·obtain⟨at0,out⟩:=a;obtain⟨ho,ha1,ha2,hjN⟩:=ha
  simp only at ho ha1 ha2
  have hj':j=N:=by omega
  subst hj';cases out with
  |nil=>simp only[List.length_nil] at ho;omega
  |cons o os =>
   refine⟨2,?_,rfl,at0,o::os,by rw[ho];rfl,ho⟩
   show P5 Stp.next Stp.exit Stp.fail _ _=_;simp only[P5];rw[bfD (by omega)]
theorem ef9{l:List V3}{n:Nat}{r:List (List b7)}{P:List V3->Prop}(hn:n=l.length)(hr:r=bL tV l)(h:P l):Rd (one (r1L tV)) (some (.sl 0 0 n 0,[⟨27,3,r,true,false,0⟩])) P:=by
 subst hn hr;refine⟨_,l,rfl,?_,h⟩;show Bool.rec (motive:=λ_=>Option (List V3)) none (some (slR tV (bL tV l) 0 l.length)) (Bool.and true (okS tV (bL tV l) 0 l.length))=_
 rw[hc9,ic0];rfl
theorem Jd0(x:List Int):Rd (one (r1L tV)) (eb1 x) (λr=>4<=r.length/\r.length<=8):=by
 obtain⟨v,j,e1,a1,b1,c1,d1⟩:=va1 5 x 0 (by omega) (by omega) (by omega) (by omega)
 have hN:W (4+v)=(((4+v).toNat:Nat):Int):=by rw[ka3 (by omega) (by omega)];omega
 obtain⟨idx,out,e2,e3⟩:=yf5 x (4+v).toNat (by omega) (by omega) j (by omega)
 unfold eb1;simp only[g8,i7,e1,hN,e2];have h4:4<=(4+v).toNat:=by omega
 have h8:(4+v).toNat<=8:=by omega
 generalize (4+v).toNat=N at *
 have s1:lsL tV N (λk=>l9 (bL tV out) (0+k))=out:=by rw[<- e3];exact hc9 tV out
 have s2:okL tV N (λk=>l9 (bL tV out) (0+k))=true:=by rw[<- e3];exact ic0 tV out
 have gf:kb6 out=true:=xe0 out (by omega)
 rw[s1,s2,gf];simp only[Qjl,Qjn,g7,show Nat.beq 2 1=false from rfl,J7]
 refine Rd.sl (λ_=>?_) λ_=>ef9 e3.symm rfl ⟨by omega,by omega⟩
 have i0:inB 0 N=true:=e8 (j:=0) (by omega)
 have i1:inB 1 N=true:=e8 (j:=1) (by omega)
 have i2:inB 2 N=true:=e8 (j:=2) (by omega)
 have i3:inB 3 N=true:=e8 (j:=3) (by omega)
 have sp:∀(v:V3) (x1 x2 x3:Int),ea5 (tV.row v) 0 [i x1,i x2,i x3]=tV.row ⟨x1,x2,x3⟩:=λ_ _ _ _=>rfl
 have rl:∀v:V3,Nat.ble (0+3) (len (tV.row v))=true:=λ_=>rfl
 have ck:∀v:V3,ka1 [CK.int .i64,CK.int .i64,CK.int .i64] (j7 (tV.row v) 0)=true:=λ_=>rfl
 have gr:∀(l:List V3) (k:Nat),l.length=N->k<4->l9 (bL tV l) k=tV.row (gL tV l k):=λl k hl hk=>ea8 tV (by omega)
 have bl:∀(l:List V3) (k:Nat),l.length=N->k<4->Nat.blt k (len (bL tV l))=true:=λl k hl hk=>by rw[U9,Qjaj];omega
 have ls:∀(l:List V3) (k:Nat) (v:V3),l.length=N->(l.set k v).length=N:=λl k v hl=>by rw[Qjm];exact hl
 rw[gr out 0 e3 (by omega),gr out 1 e3 (by omega)]
 simp only[sp,ic1];rw[gr _ 2 (ls out 1 _ e3) (by omega)]
 simp only[sp,ic1];rw[gr _ 3 (ls _ 2 _ (ls out 1 _ e3)) (by omega)]
 simp only[sp,ic1,rl,ck,i0,i1,i2,i3,bl out 0 e3 (by omega),bl out 1 e3 (by omega),bl _ 2 (ls out 1 _ e3) (by omega),bl _ 3 (ls _ 2 _ (ls out 1 _ e3)) (by omega),Qjn,g7]
 exact ef9 (by simp only[Qjm];omega) rfl (by simp only[Qjm];omega)
theorem ff0(x:List Int):Yb2 x=true:=(Jd0 x).g
theorem ff1(x:List Int):4<=(ma5 x).length/\(ma5 x).length<=8:=(Jd0 x).p
theorem ff2{l:List Pln}{P:List Pln->Prop}(h:P l):Rd (one (r1L tP)) (some (eL tP l,[])) P:=⟨_,l,rfl,uc8 tP l,h⟩
theorem ed2{l:List Pln}{k:Nat}(h:k<l.length):ldR tP (bL tP l) (0+k)=true:=by rw[Qja];exact te9 tP h
theorem Jc0{l:List Pln}{k:Nat}(h:k<l.length):rdR tP (bL tP l) (0+k)=gL tP l k:=by rw[Qja];exact te8 tP h
theorem xe3{α:Type}(t:Ty α)(k:Nat)(l:List α):(one (r1L t)).rd (.sl 0 0 l.length 0,[⟨k,t.es,bL t l,true,false,0⟩])=some l:=by
 show Bool.rec (motive:=λ_=>Option (List α)) none (some (slR t (bL t l) 0 l.length)) (Bool.and (Nat.beq t.es t.es) (okS t (bL t l) 0 l.length))=_
 rw[hc9,ic0,Qjl];rfl
theorem ff3{l:List Pln}{n:Nat}{r:List (List b7)}{P:List Pln->Prop}(hn:n<=l.length)(hr:r=bL tP l)(h:P (l.take n)):Rd (one (r1L tP)) (some (.sl 0 0 n 0,[⟨73,4,r,true,false,0⟩])) P:=by
 subst hr;have e1:slR tP (bL tP l) 0 n=l.take n:=Nc6 tP (by rw[Qjb];omega) λk hk=>by
  rw[Qja,ea8 tP (by omega)]
  congr 1;simp[gL,Qjw,List.getElem?_take,hk]
 have e2:okS tP (bL tP l) 0 n=true:=jb2 tP (f:=λk=>gL tP l k) λk hk=>by rw[Qja,ea8 tP (by omega)]
 refine⟨_,l.take n,rfl,?_,h⟩;show Bool.rec (motive:=λ_=>Option (List Pln)) none (some (slR tP (bL tP l) 0 n)) (Bool.and true (okS tP (bL tP l) 0 n))=_
 rw[e1,e2];rfl
set_option maxRecDepth 100000
structure nb0 where
 (ka8 ka9 la0 Lb1:Int)
 i6:List Pt
noncomputable def mc3:List (Nat×Sum):=[(153,Jb7)]
theorem ad4:i9 prog G mc3:=⟨Wb8,trivial⟩
structure Fa3 where
 of6:List Pt
 is8:Int
 i6:List Pt
 (X1 X2 X3 da4:Int)
structure U5 where
 (is4 is9:Int)
noncomputable def Sb4(p:Fa3)(s:U5):St:=⟨.unk::.unk::.ptr 1 0 0 0::.unk::i s.is4::.unk::.unk::eL tX p.of6::i p.is8::i s.is9::ra 12 [],[⟨0,1,[[eL tX p.i6]],true,false,0⟩,⟨0,4,[[i p.X1,i p.X2,i p.X3,i p.da4]],true,false,0⟩]⟩
noncomputable def va2{α:Type}(k:U5->α)(e:Nat->α)(z:α)(p:Fa3)(s:U5):α:=let t1:=(Ba7 (⟨(⟨p.X1,p.X2,p.X3⟩:V3),p.da4⟩:Pln) (gL tX p.of6 s.is9.toNat));(sl (decide (s.is9<p.is8)) (sl (inB s.is9 (List.length p.of6)) (sl (t1==0) (k ⟨W (s.is4+1),W (s.is9+1)⟩) (k ⟨s.is4,W (s.is9+1)⟩)) z) (e 1))
noncomputable def Aa3(p:Fa3)(s:U5):Stp U5:=va2 .next .exit .fail p s
noncomputable def tb8:Lo Fa3 U5:=⟨En mc3,1,Ff4,[1,1,0,1,4,4],[2,4,7,8,9],.p,[⟨sUq::sUq::sPq 1::sUq::sIq::sUq::sUq::sLq tX::sIq::sIq::ru2 12 [],[⟨0,1,true,some [[.c 4 (nL tX)]]⟩,⟨0,4,true,some [kLq 4]⟩],λa H=>(⟨aLq tX a 7,aIq a 8,hLq tX H 0 0 0,hIq H 1 0 0,hIq H 1 0 1,hIq H 1 0 2,hIq H 1 0 3⟩,⟨aIq a 4,aIq a 9⟩)⟩],Aa3,[(some 0,λp s=>upq (Sb4 p s) [(10,b (decide (s.is9<p.is8)))])],Sb4⟩
theorem Rc1:tb8.Ok:=Lo.ok [] (by kernel_rfl) .nil rfl (.cons (λa H=>by kernel_rfl) .nil) λp s=>(.of @va2 (λF _ _ _ _ _=>by unfold va2;(repeat' apply l6 (f:=F))<;>rfl) (by kernel_rfl))
structure Ga7 where
 alt:Nat
 bs0:Bool
 i6:List Pt
noncomputable def Ga8{α:Type}(kk:Ga7->α)(x:nb0):α:=let t1:=(lp (Aa3 (⟨rt tX x.i6,(↑(List.length x.i6):Int),rt tX x.i6,x.ka8,x.ka9,x.la0,x.Lb1⟩:Fa3)) (⟨0,0⟩:U5));(sl ((cnE tX x.i6)&&((cnE tX x.i6)&&true)) (sl (Nat.beq t1.1 1) (kk ⟨1,decide (t1.2.is4<3),rt tX x.i6⟩) (kk ⟨0,false,[]⟩)) (kk ⟨0,false,[]⟩))
noncomputable def xa2(x:nb0):Ga7:=Ga8 (λr=>r) x
noncomputable def Db7(x:nb0)(r:Ga7):DT (b7×List b8):=(.ite (Nat.beq r.alt 1) (.ret (b r.bs0,[⟨0,1,[[eL tX r.i6]],true,false,0⟩])) .fail)
theorem Bd3{α β:Type}(F:α->β)(kk:Ga7->α)(x:nb0):F (Ga8 kk x)=Ga8 (λr=>F (kk r)) x:=by unfold Ga8;(repeat' apply l6 (f:=F))<;>rfl
noncomputable def Ob7:Sum:=bb1 ⟨[.agg (kLq 4),sPq 0],[⟨0,1,true,some [[.c 4 (nL tX)]]⟩],λa H=>(⟨cIq a 0 0,cIq a 0 1,cIq a 0 2,cIq a 0 3,hLq tX H 0 0 0⟩,())⟩ (λx=>Db7 x (xa2 x))
theorem mc4:g9 prog G 152 Ob7:=N9 (enc:=λx=>⟨[.agg [i x.ka8,i x.ka9,i x.la0,i x.Lb1],.ptr 0 0 0 0],[⟨0,1,[[eL tX x.i6]],true,false,0⟩]⟩) (λa H=>by kernel_rfl) (bd kg1 ad4) λx=>ta7 (.s .p (.s .p (.s (.s .p (.b (.u tb8.ls))) .p))) [tb8.pr] (by kernel_rfl) (.cons Rc1 .nil) (Qjk (b:=Ga8 (λr=>(Db7 x r).run) x) (by kernel_rfl) (Bd3 (λr=>(Db7 x r).run) (λr=>r) x).symm)
structure ca7 where
 ns0:Nat
 eh0:List (List b7)
 C0:List Pt
noncomputable def La9:List (Nat×Sum):=[(152,Ob7)]
theorem xb1:i9 prog G La9:=⟨mc4,trivial⟩
structure N1 where
 ns0:Nat
 is7:Int
 eh0:List (List b7)
structure q8 where
 is8:Int
 C0:List Pt
noncomputable def Fa4(p:N1)(s:q8):St:=⟨.sl 0 0 p.ns0 0::.fn 152 [.ptr 1 0 0 0]::ra 5 (i p.is7::i s.is8::ra 10 []),[⟨73,4,p.eh0,true,false,0⟩,⟨0,1,[[eL tX s.C0]],true,false,0⟩]⟩
noncomputable def I0{α:Type}(k:q8->α)(e:Nat->α)(z:α)(p:N1)(s:q8):α:=let t1:=(xa2 ⟨(rdR tP p.eh0 (0+s.is8.toNat)).n.x,(rdR tP p.eh0 (0+s.is8.toNat)).n.y,(rdR tP p.eh0 (0+s.is8.toNat)).n.z,(rdR tP p.eh0 (0+s.is8.toNat)).b,rt tX s.C0⟩);(sl (decide (s.is8<p.is7)) (sl (inB s.is8 p.ns0) (sl (ldR tP p.eh0 (0+s.is8.toNat)) (sl ((cnE tX s.C0)&&true) (sl (Nat.beq t1.alt 1) (sl t1.bs0 (e 1) (k ⟨W (s.is8+1),t1.i6⟩)) z) z) z) z) (e 2))
noncomputable def L0(p:N1)(s:q8):Stp q8:=I0 .next .exit .fail p s
noncomputable def ma7:Lo N1 q8:=⟨En La9,2,fe7,[1,0,1,4,4],[0,1,7,8],.p,[⟨.s (.o (.sl 0 0 (some 0) none))::.fn 152 [.o (.ptr 1 0 0 0)]::ru2 5 (sIq::sIq::ru2 10 []),[⟨73,4,true,none⟩,⟨0,1,true,some [[.c 4 (nL tX)]]⟩],λa H=>(⟨slN (slT a 0),aIq a 7,elT H 0⟩,⟨aIq a 8,hLq tX H 1 0 0⟩)⟩],L0,[(none,λp s=>let t1:=(xa2 ⟨(rdR tP p.eh0 (0+s.is8.toNat)).n.x,(rdR tP p.eh0 (0+s.is8.toNat)).n.y,(rdR tP p.eh0 (0+s.is8.toNat)).n.z,(rdR tP p.eh0 (0+s.is8.toNat)).b,rt tX s.C0⟩);⟨[i s.is8],[⟨73,4,p.eh0,true,false,0⟩,⟨0,1,[[eL tX t1.i6]],true,false,0⟩]⟩),(some 0,λp s=>upq (Fa4 p s) [(9,b (decide (s.is8<p.is7)))])],Fa4⟩
theorem tb9:ma7.Ok:=Lo.ok [] (by kernel_rfl) .nil rfl (.cons (λa H=>by kernel_rfl) .nil) λp s=>(.of @I0 (λF _ _ _ _ _=>by unfold I0;(repeat' apply l6 (f:=F))<;>rfl) (by kernel_rfl))
structure ca8 where
 alt:Nat
 is0:Int
 C0:List Pt
noncomputable def J0{α:Type}(kk:ca8->α)(x:ca7):α:=let t1:=(lp (L0 (⟨x.ns0,(↑x.ns0:Int),x.eh0⟩:N1)) (⟨0,rt tX x.C0⟩:q8));let t2:=(xa2 ⟨(rdR tP x.eh0 (0+t1.2.is8.toNat)).n.x,(rdR tP x.eh0 (0+t1.2.is8.toNat)).n.y,(rdR tP x.eh0 (0+t1.2.is8.toNat)).n.z,(rdR tP x.eh0 (0+t1.2.is8.toNat)).b,rt tX t1.2.C0⟩);(sl ((cnE tX x.C0)&&true) (sl (Nat.beq t1.1 1) (kk ⟨1,t1.2.is8,t2.i6⟩) (sl (Nat.beq t1.1 2) (kk ⟨1,-1,t1.2.C0⟩) (kk ⟨0,0,[]⟩))) (kk ⟨0,0,[]⟩))
noncomputable def ca9(x:ca7):ca8:=J0 (λr=>r) x
noncomputable def qa2(x:ca7)(r:ca8):DT (b7×List b8):=(.ite (Nat.beq r.alt 1) (.ret (i r.is0,[⟨73,4,x.eh0,true,false,0⟩,⟨0,1,[[eL tX r.C0]],true,false,0⟩])) .fail)
theorem Hb1{α β:Type}(F:α->β)(kk:ca8->α)(x:ca7):F (J0 kk x)=J0 (λr=>F (kk r)) x:=by unfold J0;(repeat' apply l6 (f:=F))<;>rfl
noncomputable def Ra0:Sum:=bb1 ⟨[.s (.o (.sl 0 0 (some 0) none)),.fn 152 [.o (.ptr 1 0 0 0)]],[⟨73,4,true,none⟩,⟨0,1,true,some [[.c 4 (nL tX)]]⟩],λa H=>(⟨slN (slT a 0),elT H 0,hLq tX H 1 0 0⟩,())⟩ (λx=>qa2 x (ca9 x))
theorem Db8:g9 prog G 139 Ra0:=N9 (enc:=λx=>⟨[.sl 0 0 x.ns0 0,.fn 152 [.ptr 1 0 0 0]],[⟨73,4,x.eh0,true,false,0⟩,⟨0,1,[[eL tX x.C0]],true,false,0⟩]⟩) (λa H=>by kernel_rfl) (bd wf0 xb1) λx=>ta7 (.s .p (.s (.s .p (.b (.u ma7.ls))) .p)) [ma7.pr] (by kernel_rfl) (.cons tb9 .nil) (Qjk (b:=J0 (λr=>(qa2 x r).run) x) (by kernel_rfl) (Hb1 (λr=>(qa2 x r).run) (λr=>r) x).symm)
structure da0 where
 ns0:Nat
 eh0:List (List b7)
 C0:List Pt
noncomputable def Ma0:List (Nat×Sum):=[(139,Ra0),(152,Ob7)]
theorem xb2:i9 prog G Ma0:=⟨Db8,mc4,trivial⟩
structure N2 where
 ns0:Nat
structure u8 where
 (is5 is6:Int)
 eh0:List (List b7)
 C0:List Pt
noncomputable def Fa5(p:N2)(s:u8):St:=⟨.sl 0 0 p.ns0 0::.fn 152 [.ptr 1 0 0 0]::ra 3 (i s.is5::i s.is6::ra 35 []),[⟨73,4,s.eh0,true,false,0⟩,⟨0,1,[[eL tX s.C0]],true,false,0⟩]⟩
noncomputable def I1{α:Type}(k:u8->α)(e:Nat->α)(z:α)(p:N2)(s:u8):α:=let t1:=(xa2 ⟨(rdR tP s.eh0 (0+s.is6.toNat)).n.x,(rdR tP s.eh0 (0+s.is6.toNat)).n.y,(rdR tP s.eh0 (0+s.is6.toNat)).n.z,(rdR tP s.eh0 (0+s.is6.toNat)).b,rt tX s.C0⟩);(sl (decide (s.is6<(↑p.ns0:Int))) (sl (inB s.is6 p.ns0) (sl (ldR tP s.eh0 (0+s.is6.toNat)) (sl ((cnE tX s.C0)&&true) (sl (Nat.beq t1.alt 1) (sl (!t1.bs0) (sl (inB s.is5 p.ns0) (sl ((Nat.blt (0+s.is5.toNat) (len s.eh0))&&(Nat.ble (0+4) (len (l9 s.eh0 (0+s.is5.toNat))))) (k ⟨W (s.is5+1),W (s.is6+1),setAt s.eh0 (0+s.is5.toNat) (ea5 (l9 s.eh0 (0+s.is5.toNat)) 0 [i (rdR tP s.eh0 (0+s.is6.toNat)).n.x,i (rdR tP s.eh0 (0+s.is6.toNat)).n.y,i (rdR tP s.eh0 (0+s.is6.toNat)).n.z,i (rdR tP s.eh0 (0+s.is6.toNat)).b]),t1.i6⟩) z) z) (k ⟨s.is5,W (s.is6+1),s.eh0,t1.i6⟩)) z) z) z) z) (e 1))
noncomputable def E0(p:N2)(s:u8):Stp u8:=I1 .next .exit .fail p s
noncomputable def ma8:Lo N2 u8:=⟨En Ma0,2,Ff3,[1,1,1,0,1,4,4],[0,1,5,6],.p,[⟨.s (.o (.sl 0 0 (some 0) none))::.fn 152 [.o (.ptr 1 0 0 0)]::ru2 3 (sIq::sIq::ru2 35 []),[⟨73,4,true,none⟩,⟨0,1,true,some [[.c 4 (nL tX)]]⟩],λa H=>(⟨slN (slT a 0)⟩,⟨aIq a 5,aIq a 6,elT H 0,hLq tX H 1 0 0⟩)⟩],E0,[(some 0,λp s=>upq (Fa5 p s) [(16,i s.is6),(17,.sl 0 0 p.ns0 0),(18,i (↑p.ns0:Int)),(19,b (decide (s.is6<(↑p.ns0:Int))))])],Fa5⟩
theorem ub0:ma8.Ok:=Lo.ok [] (by kernel_rfl) .nil rfl (.cons (λa H=>by kernel_rfl) .nil) λp s=>(.of @I1 (λF _ _ _ _ _=>by unfold I1;(repeat' apply l6 (f:=F))<;>rfl) (by kernel_rfl))
structure da1 where
 (alt ns0:Nat)
 eh0:List (List b7)
 C0:List Pt
noncomputable def J1{α:Type}(kk:da1->α)(x:da0):α:=let t1:=(ca9 ⟨x.ns0,x.eh0,rt tX x.C0⟩);let t2:=(lp (E0 (⟨x.ns0⟩:N2)) (⟨t1.is0,W (t1.is0+1),x.eh0,rt tX t1.C0⟩:u8));(sl ((cnE tX x.C0)&&true) (sl (Nat.beq t1.alt 1) (sl (t1.is0==(-1)) (kk ⟨1,x.ns0,x.eh0,t1.C0⟩) (sl ((cnE tX t1.C0)&&true) (sl (Nat.beq t2.1 1) (sl (inB t2.2.is5 (x.ns0+1)) (sl (inB t2.2.is5 (x.ns0+1)) (kk ⟨1,t2.2.is5.toNat-0,app (N8 t2.2.eh0 (0+t2.2.is5.toNat)) (app (List.replicate (x.ns0-t2.2.is5.toNat) [i 0,i 0,i 0,i 0]) (j7 t2.2.eh0 ((0+t2.2.is5.toNat)+(x.ns0-t2.2.is5.toNat)))),t2.2.C0⟩) (kk ⟨0,0,[],[]⟩)) (kk ⟨0,0,[],[]⟩)) (kk ⟨0,0,[],[]⟩)) (kk ⟨0,0,[],[]⟩))) (kk ⟨0,0,[],[]⟩)) (kk ⟨0,0,[],[]⟩))
noncomputable def J2(x:da0):da1:=J1 (λr=>r) x
noncomputable def qa3(x:da0)(r:da1):DT (b7×List b8):=(.ite (Nat.beq r.alt 1) (.ret (.sl 0 0 r.ns0 0,[⟨73,4,r.eh0,true,false,0⟩,⟨0,1,[[eL tX r.C0]],true,false,0⟩])) .fail)
theorem Hb2{α β:Type}(F:α->β)(kk:da1->α)(x:da0):F (J1 kk x)=J1 (λr=>F (kk r)) x:=by unfold J1;(repeat' apply l6 (f:=F))<;>rfl
noncomputable def sa5:Sum:=bb1 ⟨[.s (.o (.sl 0 0 (some 0) none)),.fn 152 [.o (.ptr 1 0 0 0)]],[⟨73,4,true,none⟩,⟨0,1,true,some [[.c 4 (nL tX)]]⟩],λa H=>(⟨slN (slT a 0),elT H 0,hLq tX H 1 0 0⟩,())⟩ (λx=>qa3 x (J2 x))
theorem Ma1:g9 prog G 150 sa5:=N9 (enc:=λx=>⟨[.sl 0 0 x.ns0 0,.fn 152 [.ptr 1 0 0 0]],[⟨73,4,x.eh0,true,false,0⟩,⟨0,1,[[eL tX x.C0]],true,false,0⟩]⟩) (λa H=>by kernel_rfl) (bd Zf9 xb2) λx=>ta7 (.s .p (.s .p (.s .p (.s (.s .p (.b (.u ma8.ls))) .p)))) [ma8.pr] (by kernel_rfl) (.cons ub0 .nil) (Qjk (b:=J1 (λr=>(qa3 x r).run) x) (by kernel_rfl) (Hb2 (λr=>(qa3 x r).run) (λr=>r) x).symm)
structure ma9 where
 ns0:Nat
 eh0:List (List b7)
noncomputable def Aa4:List (Nat×Sum):=[]
theorem Ob8:i9 prog G Aa4:=trivial
structure E9 where
 (ns0 os4 ns4:Nat)
structure r4 where
 (is3 is5:Int)
 eh0:List (List b7)
noncomputable def Ra1(p:E9)(s:r4):St:=⟨.sl 0 0 p.ns0 0::.unk::.unk::i s.is3::.sl 0 p.os4 p.ns4 0::i s.is5::ra 55 [],[⟨73,4,s.eh0,true,false,0⟩]⟩
noncomputable def O5{α:Type}(k:r4->α)(e:Nat->α)(z:α)(p:E9)(s:r4):α:=(sl (decide (s.is5<(↑p.ns4:Int))) (sl (inB s.is5 p.ns4) (sl (ldR tP s.eh0 (p.os4+s.is5.toNat)) (sl (inB (W (s.is5-1)) p.ns4) (sl (ldR tP s.eh0 (p.os4+(W (s.is5-1)).toNat)) (sl (!(((rdR tP s.eh0 (p.os4+s.is5.toNat)).n.x==(rdR tP s.eh0 (p.os4+(W (s.is5-1)).toNat)).n.x)&&(((rdR tP s.eh0 (p.os4+s.is5.toNat)).n.y==(rdR tP s.eh0 (p.os4+(W (s.is5-1)).toNat)).n.y)&&(((rdR tP s.eh0 (p.os4+s.is5.toNat)).n.z==(rdR tP s.eh0 (p.os4+(W (s.is5-1)).toNat)).n.z)&&(((rdR tP s.eh0 (p.os4+s.is5.toNat)).b==(rdR tP s.eh0 (p.os4+(W (s.is5-1)).toNat)).b)&&true))))) (sl (inB s.is5 p.ns4) (sl (ldR tP s.eh0 (p.os4+s.is5.toNat)) (sl (inB s.is3 p.ns0) (sl ((Nat.blt (0+s.is3.toNat) (len s.eh0))&&(Nat.ble (0+4) (len (l9 s.eh0 (0+s.is3.toNat))))) (k ⟨W (s.is3+1),W (s.is5+1),setAt s.eh0 (0+s.is3.toNat) (ea5 (l9 s.eh0 (0+s.is3.toNat)) 0 [i (rdR tP s.eh0 (p.os4+s.is5.toNat)).n.x,i (rdR tP s.eh0 (p.os4+s.is5.toNat)).n.y,i (rdR tP s.eh0 (p.os4+s.is5.toNat)).n.z,i (rdR tP s.eh0 (p.os4+s.is5.toNat)).b])⟩) z) z) z) z) (k ⟨s.is3,W (s.is5+1),s.eh0⟩)) z) z) z) z) (e 1))
noncomputable def s9(p:E9)(s:r4):Stp r4:=O5 .next .exit .fail p s
noncomputable def xa3:Lo E9 r4:=⟨En Aa4,1,bf7,[1,1,0,1,4,4,1,0,4,1,2,1,0,1,4,4],[0,3,4,5],.p,[⟨.s (.o (.sl 0 0 (some 0) none))::sUq::sUq::sIq::.s (.o (.sl 0 0 none none))::sIq::ru2 55 [],[⟨73,4,true,none⟩],λa H=>(⟨slN (slT a 0),slO (slT a 4),slN (slT a 4)⟩,⟨aIq a 3,aIq a 5,elT H 0⟩)⟩],s9,[(some 2,λp s=>upq (Ra1 p s) [(29,i s.is5),(30,.sl 0 p.os4 p.ns4 0),(31,i (↑p.ns4:Int)),(32,b (decide (s.is5<(↑p.ns4:Int))))])],Ra1⟩
theorem Hb3:xa3.Ok:=Lo.ok [] (by kernel_rfl) .nil rfl (.cons (λa H=>by kernel_rfl) .nil) λp s=>(.of @O5 (λF _ _ _ _ _=>by unfold O5;(repeat' apply l6 (f:=F))<;>rfl) (by kernel_rfl))
structure T2 where
 ns0:Nat
 eh0:List (List b7)
structure w6 where
 is3:Int
noncomputable def Ra2(p:T2)(s:w6):St:=⟨.sl 0 0 p.ns0 0::.unk::.unk::i s.is3::ra 57 [],[⟨73,4,p.eh0,true,false,0⟩]⟩
noncomputable def O6{α:Type}(k:w6->α)(e:Nat->α)(z:α)(p:T2)(s:w6):α:=let t1:=(lp (s9 (⟨p.ns0,0+s.is3.toNat,p.ns0-s.is3.toNat⟩:E9)) (⟨s.is3,1,p.eh0⟩:r4));(sl (decide (s.is3<(↑p.ns0:Int))) (sl (inB s.is3 p.ns0) (sl (ldR tP p.eh0 (0+s.is3.toNat)) (sl (inB (W (s.is3-1)) p.ns0) (sl (ldR tP p.eh0 (0+(W (s.is3-1)).toNat)) (sl (((rdR tP p.eh0 (0+s.is3.toNat)).n.x==(rdR tP p.eh0 (0+(W (s.is3-1)).toNat)).n.x)&&(((rdR tP p.eh0 (0+s.is3.toNat)).n.y==(rdR tP p.eh0 (0+(W (s.is3-1)).toNat)).n.y)&&(((rdR tP p.eh0 (0+s.is3.toNat)).n.z==(rdR tP p.eh0 (0+(W (s.is3-1)).toNat)).n.z)&&(((rdR tP p.eh0 (0+s.is3.toNat)).b==(rdR tP p.eh0 (0+(W (s.is3-1)).toNat)).b)&&true)))) (sl (inB s.is3 (p.ns0+1)) (sl (Nat.beq t1.1 1) (sl (inB t1.2.is3 (p.ns0+1)) (sl (inB t1.2.is3 (p.ns0+1)) (e 1) z) z) z) z) (k ⟨W (s.is3+1)⟩)) z) z) z) z) (e 2))
noncomputable def R7(p:T2)(s:w6):Stp w6:=O6 .next .exit .fail p s
noncomputable def xa4:Lo T2 w6:=⟨En Aa4,1,bf7,[1,1,0,1,4,4],[0,3],.s .p (.s (.b (.s .p (.c (.s .p (.s (.s .p (.b (.u xa3.ls))) .p)) .p))) .p),[⟨.s (.o (.sl 0 0 (some 0) none))::sUq::sUq::sIq::ru2 57 [],[⟨73,4,true,none⟩],λa H=>(⟨slN (slT a 0),elT H 0⟩,⟨aIq a 3⟩)⟩],R7,[(none,λp s=>let t1:=(lp (s9 (⟨p.ns0,0+s.is3.toNat,p.ns0-s.is3.toNat⟩:E9)) (⟨s.is3,1,p.eh0⟩:r4));⟨[.sl 0 0 (t1.2.is3.toNat-0) 0],[⟨73,4,app (N8 t1.2.eh0 (0+t1.2.is3.toNat)) (app (List.replicate (p.ns0-t1.2.is3.toNat) [i 0,i 0,i 0,i 0]) (j7 t1.2.eh0 ((0+t1.2.is3.toNat)+(p.ns0-t1.2.is3.toNat)))),true,false,0⟩]⟩),(some 0,λp s=>upq (Ra2 p s) [(10,i s.is3),(11,.sl 0 0 p.ns0 0),(12,i (↑p.ns0:Int)),(13,b (decide (s.is3<(↑p.ns0:Int))))])],Ra2⟩
theorem Hb4:xa4.Ok:=Lo.ok [xa3.pr] (by kernel_rfl) (.cons Hb3 .nil) rfl (.cons (λa H=>by kernel_rfl) .nil) λp s=>(.of @O6 (λF _ _ _ _ _=>by unfold O6;(repeat' apply l6 (f:=F))<;>rfl) (by kernel_rfl))
structure na0 where
 (alt ns0:Nat)
 eh0:List (List b7)
noncomputable def P6{α:Type}(kk:na0->α)(x:ma9):α:=let t1:=(lp (R7 (⟨x.ns0,x.eh0⟩:T2)) (⟨1⟩:w6));let t2:=(lp (s9 (⟨x.ns0,0+t1.2.is3.toNat,x.ns0-t1.2.is3.toNat⟩:E9)) (⟨t1.2.is3,1,x.eh0⟩:r4));(sl (decide ((↑x.ns0:Int)<2)) (kk ⟨1,x.ns0,x.eh0⟩) (sl (Nat.beq t1.1 1) (kk ⟨1,t2.2.is3.toNat-0,app (N8 t2.2.eh0 (0+t2.2.is3.toNat)) (app (List.replicate (x.ns0-t2.2.is3.toNat) [i 0,i 0,i 0,i 0]) (j7 t2.2.eh0 ((0+t2.2.is3.toNat)+(x.ns0-t2.2.is3.toNat))))⟩) (sl (Nat.beq t1.1 2) (kk ⟨1,x.ns0,x.eh0⟩) (kk ⟨0,0,[]⟩))))
noncomputable def Z9(x:ma9):na0:=P6 (λr=>r) x
noncomputable def Aa5(x:ma9)(r:na0):DT (b7×List b8):=(.ite (Nat.beq r.alt 1) (.ret (.sl 0 0 r.ns0 0,[⟨73,4,r.eh0,true,false,0⟩])) .fail)
theorem Yb6{α β:Type}(F:α->β)(kk:na0->α)(x:ma9):F (P6 kk x)=P6 (λr=>F (kk r)) x:=by unfold P6;(repeat' apply l6 (f:=F))<;>rfl
noncomputable def Da0:Sum:=bb1 ⟨[.s (.o (.sl 0 0 (some 0) none))],[⟨73,4,true,none⟩],λa H=>(⟨slN (slT a 0),elT H 0⟩,())⟩ (λx=>Aa5 x (Z9 x))
theorem Za3:g9 prog G 154 Da0:=N9 (enc:=λx=>⟨[.sl 0 0 x.ns0 0],[⟨73,4,x.eh0,true,false,0⟩]⟩) (λa H=>by kernel_rfl) (bd ag0 Ob8) λx=>ta7 (.s .p (.s .p (.s (.s .p (.b (.u xa4.ls))) .p))) [xa4.pr] (by kernel_rfl) (.cons Hb4 .nil) (Qjk (b:=P6 (λr=>(Aa5 x r).run) x) (by kernel_rfl) (Yb6 (λr=>(Aa5 x r).run) (λr=>r) x).symm)
noncomputable def qd2:List (Nat×Sum):=[]
theorem ad5:i9 prog G qd2:=trivial
noncomputable def Ua4(x:Int)(y:Int):Option (b7×List b8):=(sl (decide (x<y)) (some (i (-1),[])) (sl (decide (x>y)) (some (i 1,[])) (some (i 0,[]))))
noncomputable def oa2(x:Int)(y:Int):Int:=J8 (one r1I) (Ua4 x y)
noncomputable def oa3(x:Int)(y:Int):Bool:=okO (one r1I) (Ua4 x y)
noncomputable def Ob9:Sum:=oa5 cI cI (λx y=>.guard (oa3 x y) (.ret ((one r1I).enc (oa2 x y),[])))
theorem mc5:g9 prog G 141 Ob9:=hb8 (bd jg8 ad5) (one r1I) (o:=Ua4) λx y=>v7 (by kernel_rfl)
noncomputable def Rc2:List (Nat×Sum):=[(141,Ob9)]
theorem Jc1:i9 prog G Rc2:=⟨mc5,trivial⟩
noncomputable def Fa6(x:Pln)(y:Pln):Option (b7×List b8):=let t1:=(oa2 x.n.x y.n.x);let t2:=(oa2 x.n.y y.n.y);let t3:=(oa2 x.n.z y.n.z);let t4:=(oa2 x.b y.b);(sl (oa3 x.n.x y.n.x) (sl (t1==0) (sl (oa3 x.n.y y.n.y) (sl (t2==0) (sl (oa3 x.n.z y.n.z) (sl (t3==0) (sl (oa3 x.b y.b) (sl (t4==0) (some (i t4,[])) (some (i t4,[]))) none) (some (i t3,[]))) none) (some (i t2,[]))) none) (some (i t1,[]))) none)
noncomputable def Wa3(x:Pln)(y:Pln):Int:=J8 (one r1I) (Fa6 x y)
noncomputable def Wa4(x:Pln)(y:Pln):Bool:=okO (one r1I) (Fa6 x y)
noncomputable def ub1:Sum:=oa5 (ba6 tP) (ba6 tP) (λx y=>.guard (Wa4 x y) (.ret ((one r1I).enc (Wa3 x y),[])))
theorem Rc3:g9 prog G 122 ub1:=hb8 (bd ig8 Jc1) (one r1I) (o:=Fa6) λx y=>v7 (by kernel_rfl)
noncomputable def ke8:List (Nat×Sum):=[(138,Cb3)]
theorem Ud8:i9 prog G ke8:=⟨cc2,trivial⟩
noncomputable def Db9(x:V3):Option (b7×List b8):=let t1:=(za5 24 [x.x,x.y,x.z]);(sl (za6 24 [x.x,x.y,x.z]) (some (b t1,[])) none)
noncomputable def Eb0(x:V3):Bool:=J8 (one r1B) (Db9 x)
noncomputable def Eb1(x:V3):Bool:=okO (one r1B) (Db9 x)
noncomputable def Ac6:Sum:=X6 (ba6 tV) (λx=>.guard (Eb1 x) (.ret ((one r1B).enc (Eb0 x),[])))
theorem Wc5:g9 prog G 85 Ac6:=Ia9 (bd b85 Ud8) (one r1B) (o:=Db9) λx=>v7 (by kernel_rfl)
noncomputable def ke9:List (Nat×Sum):=[(109,db2),(85,Ac6),(115,Mb3)]
theorem Ud9:i9 prog G ke9:=⟨mb5,Wc5,kc4,trivial⟩
noncomputable def Eb2(x:List Pln)(y:V3):Option (b7×List b8):=let t1:=(ua7 [rt tP x]);let t2:=(Eb0 y);let t3:=(wa5 (rt tP x) (⟨y.x,y.y,y.z,1⟩:Pt));(sl ((okE tP x)&&true) (sl (ua8 [rt tP x]) (sl t1 (sl (Eb1 y) (sl t2 (sl (okE tP x) (sl (wa6 (rt tP x) (⟨y.x,y.y,y.z,1⟩:Pt)) (some (b t3,[])) none) none) (some (b false,[]))) none) (some (b false,[]))) none) none)
noncomputable def kb8(x:List Pln)(y:V3):Bool:=J8 (one r1B) (Eb2 x y)
noncomputable def Ma2(x:List Pln)(y:V3):Bool:=okO (one r1B) (Eb2 x y)
noncomputable def qd3:Sum:=oa5 (O3 tP) (ba6 tV) (λx y=>.guard (Ma2 x y) (.ret ((one r1B).enc (kb8 x y),[])))
theorem le0:g9 prog G 58 qd3:=hb8 (bd b58 Ud9) (one r1B) (o:=Eb2) λx y=>v7 (by kernel_rfl)
noncomputable def Bd4:List (Nat×Sum):=[(109,db2),(110,rc2),(111,Xa9)]
theorem qd4:i9 prog G Bd4:=⟨mb5,zc5,vb0,trivial⟩
noncomputable def eb3(x:List Pln)(y:List Pln):Option (b7×List b8):=let t1:=(ua7 [rt tP x,rt tP y]);let t2:=(jb9 [rt tP x,rt tP y]);let t3:=(pa6 (rt tP t2));(sl ((okE tP x)&&((okE tP y)&&true)) (sl (ua8 [rt tP x,rt tP y]) (sl (!t1) (some (b true,[])) (sl ((okE tP x)&&((okE tP y)&&true)) (sl (kb0 [rt tP x,rt tP y]) (sl (okE tP t2) (sl (pa7 (rt tP t2)) (some (b (!t3),[])) none) none) none) none)) none) none)
noncomputable def Oa8(x:List Pln)(y:List Pln):Bool:=J8 (one r1B) (eb3 x y)
noncomputable def Oa9(x:List Pln)(y:List Pln):Bool:=okO (one r1B) (eb3 x y)
noncomputable def Yb7:Sum:=oa5 (O3 tP) (O3 tP) (λx y=>.guard (Oa9 x y) (.ret ((one r1B).enc (Oa8 x y),[])))
theorem vc5:g9 prog G 56 Yb7:=hb8 (bd b56 qd4) (one r1B) (o:=eb3) λx y=>v7 (by kernel_rfl)
structure Se0 where
 (ka8 ka9 la0 Lb1:Int)
 e7:List Pln
structure Se1 where
 alt:Nat
 bs0:Bool
structure vd4 where
 wa1:List Pt
 e7:List Pln
structure ed3 where
 wa1:List Pt
 is7:Int
structure ed4 where
 is8:Int
 e7:List Pln
structure vd5 where
 alt:Nat
 is0:Int
 e7:List Pln
structure ad6 where
 wa1:List Pt
 e7:List Pln
structure ad7 where
 alt:Nat
 bs0:Bool
 e7:List Pln
noncomputable def le1:List (Nat×Sum):=[]
theorem Vd0:i9 prog G le1:=trivial
structure Yb8 where
 (j6 Ie2 Ie3 Ie4 Ie5 Ie6:Int)
noncomputable def Eb3{α:Type}(kk:Yb8->α)(x:V3)(y:V3):α:=(kk ⟨y.x,W (0-x.x),y.y,W (0-x.y),y.z,W (0-x.z)⟩)
noncomputable def qd5(x:V3)(y:V3):Yb8:=Eb3 (λr=>r) x y
noncomputable def mc6(r:Yb8):DT (b7×List b8):=.ret (.sl 0 0 6 0,[⟨73,4,[[i 1,i 0,i 0,i r.j6],[i (-1),i 0,i 0,i r.Ie2],[i 0,i 1,i 0,i r.Ie3],[i 0,i (-1),i 0,i r.Ie4],[i 0,i 0,i 1,i r.Ie5],[i 0,i 0,i (-1),i r.Ie6]],true,false,0⟩])
theorem xe4{α β:Type}(F:α->β)(kk:Yb8->α)(x:V3)(y:V3):F (Eb3 kk x y)=Eb3 (λr=>F (kk r)) x y:=by unfold Eb3;(repeat' apply l6 (f:=F))<;>rfl
noncomputable def qd6:Sum:=oa5 (ba6 tV) (ba6 tV) (λx y=>mc6 (qd5 x y))
theorem le2:g9 prog G 63 qd6:=Ia3 (bd b63 Vd0) λx y=>v7 (Qjk (b:=Eb3 (λr=>(mc6 r).run) x y) (by kernel_rfl) (xe4 (λr=>(mc6 r).run) (λr=>r) x y).symm)
theorem Vd1(v:V3):Eb0 v=inV v/\Eb1 v=true:=by
 have h3:[v.x,v.y,v.z].length<=1000000000:=by simp
 have:Db9 v=some (b (inV v),[]):=by
  unfold Db9 inV;simp only[Qc2 24 _ (by omega) h3,Qc3 24 _ (by omega) h3,g7]
  simp only[List.all_cons,List.all_nil,Qjn]
 unfold Eb0 Eb1;rw[this];exact⟨rfl,rfl⟩
noncomputable def has(c:List Pln)(v:V3):Bool:=(chk c==0)&&(inV v&&inn c ⟨v.x,v.y,v.z,1⟩)
theorem ff4{c:List Pln}(hc:c.length<=1000000000)(v:V3):Eb2 c v=some (b (has c v),[]):=by
 unfold Eb2 has;simp only[g8,o5,nd9 c hc,od0 c hc,(Vd1 v).1,(Vd1 v).2,he5 c _ hc,he6 c _ hc];cases chk c==0 with
 |false=>rfl
 |true=>cases inV v<;>rfl
theorem ff5{c:List Pln}(hc:c.length<=1000000000)(v:V3):kb8 c v=has c v:=by unfold kb8;rw[ff4 hc];rfl
theorem ff6{c:List Pln}(hc:c.length<=1000000000)(v:V3):Ma2 c v=true:=by unfold Ma2;rw[ff4 hc];rfl
theorem le3{a c:List Pln}(ha:(chk a==0)=true)(hc:(chk c==0)=true):Bds (a++c++ws)/\(a++c++ws).length<=200:=by
 rw[beq_iff_eq,db5] at ha hc;refine⟨λp hp=>?_,by rw[Qjc,Qjc,show ws.length=6 from rfl];omega⟩
 rcases List.mem_append.1 hp with hp|hp
 ·rcases List.mem_append.1 hp with hp|hp
  ·exact Nb8 (ha.2 p hp)
  ·exact Nb8 (hc.2 p hp)
 ·exact Hf3 p hp
noncomputable def apart(a c:List Pln):Bool:=!((chk a==0)&&(chk c==0))||!Zc7 (a++c++ws)
theorem le4{a c:List Pln}(ha:a.length<=100000000)(hc:c.length<=100000000):eb3 a c=some (b (apart a c),[]):=by
 have hn:[a,c].length<=1000000000:=by simp
 have hl:∀x∈[a,c],x.length<=1000000000:=by
  intro x hx;simp only[Qjd,List.not_mem_nil,or_false] at hx
  rcases hx with rfl|rfl<;>omega
 have hf:[a,c].flatten=a++c:=by simp
 have hfl:[a,c].flatten.length<=1000000000:=by rw[hf,Qjc];omega
 unfold eb3 apart;simp only[g8,o5,je0 _ hn hl,je1 _ hn hl,ag4 _ hn hfl,ag5 _ hn hfl,hf,List.all_cons,List.all_nil,Qjn];cases h1:chk a==0 with
 |false=>rfl
 |true =>
  cases h2:chk c==0 with
  |false=>rfl
  |true =>
   obtain⟨q1,q2⟩:=le3 h1 h2;rw[df8 _ q1 q2,df9 _ q1 q2];rfl
theorem Fe0{a c:List Pln}(ha:a.length<=100000000)(hc:c.length<=100000000):Oa8 a c=apart a c:=by unfold Oa8;rw[le4 ha hc];rfl
theorem Fe1{a c:List Pln}(ha:a.length<=100000000)(hc:c.length<=100000000):Oa9 a c=true:=by unfold Oa9;rw[le4 ha hc];rfl
noncomputable def lies(a c:List Pln):Bool:=ful a&&((chk c==0)&&(pts a).all (inn c))
end Go.Ev.Ce
namespace Go.Ev.L
open Go Go.Ev Go.Sort Go.Proofs
section
variable{α:Type}[Inhabited α]{P:Program}{G:Nat->List Value}{g:FuncId}{S:Sum}{t:Ty α}{enc:α->List Value}{cf:α->α->Int}
theorem yf6 (hc : g9 P G g S) (hS : ∀ x y, (S [.agg (t.row x), .agg (t.row y)] []).run = some (i (cf x y), [])) (hG : ∀ n, G n = []) (he : ∀ x, t.row x = (enc x).map .v) (k blk off size : Nat) (w : World) :
  CmpLays P g #[] enc k cf blk off size w:=by
 intro m os dk _ x y;generalize sortWorldK enc k w blk off m dk os=w0;have hrow:∀(z:α),la1 (λ_=>⟨0,0,0⟩) [] (λ_ _=>False) w0 (.agg (t.row z)) (.agg (enc z).toArray):=λz=>by
  refine .agg _ _ (by rw[he];simp) λi u u' hu hu'=>?_
  rw[he,Qjy] at hu;have hu':(enc z)[i]?=some u':=by simpa using hu'
  rw[hu'] at hu;injection hu with hu;subst hu;exact .v _
 obtain⟨_,h⟩:=hc _ _ _ _ (hS x y) (λk=>w0.heap.size<=k) (λ_=>⟨0,0,0⟩) (λ_ _=>False) w0 [.agg (enc x).toArray,.agg (enc y).toArray]
  ⟨λid b hb=>by simp at hb,λid id' b b' hb=>by simp at hb,λb o hf=>hf.elim,λk hk=>hk⟩ rfl
  (λi u u' hu hu'=>by
   match i,hu,hu' with
   |0,hu,hu'=>cases hu;cases hu';exact .val (hrow x)
   |1,hu,hu'=>cases hu;cases hu';exact .val (hrow y))
  (λn c v hv=>by rw[hG] at hv;simp at hv)
 refine h.mono λe w' ⟨r',h1,ρ',F',h2,h3,h4⟩=>?_
 have h5:=ka2 h4;subst h5;refine⟨h1,w'.drawn-w0.drawn,w'.heap.extract w0.heap.size w'.heap.size,?_⟩;have hd:=h2.ext.drawn;have hs:=h2.ext.size;have hheap:w'.heap=w0.heap++w'.heap.extract w0.heap.size w'.heap.size:=by
  apply Array.ext_getElem?;intro j
  rcases Nat.lt_or_ge j w0.heap.size with hj|hj
  ·rw[Qjx hj,h2.ext.block j hj (by omega)]
  ·rw[Array.getElem?_append_right hj,Array.getElem?_extract];have e:w0.heap.size+(j-w0.heap.size)=j:=by omega
   rw[e];split
   ·rfl
   ·rw[Qjam (by omega)]
 obtain⟨hp,tp,dr,os',out⟩:=w';have e1:=h2.ext.os;have e2:=h2.ext.tape;have e3:=h2.ext.output
 simp only at e1 e2 e3 hd hheap
 subst e1 e2 e3;unfold grow World.drewN
 simp only
 congr 1;omega
noncomputable def ff7(t:Ty α)(g:Nat)(et:Nat)(srt:List α->List α):Sum:=λargs blks=>match args,blks with
 |[.sl 0 0 n 0,.fn g' []],[⟨et',es',el,true,false,0⟩] =>
  Bool.rec (motive:=λ_=>DT (b7×List b8)) .fail (.guard (Bool.and (Nat.ble n room) (Bool.and (Nat.ble n (len el)) (okS t el 0 n))) (.ret (.v (.tuple #[]),[⟨et',es',app (bL t (srt (slR t el 0 n))) (j7 el n),true,false,0⟩])))
   (Bool.and (Nat.beq g' g) (Bool.and (Nat.beq et' et) (Nat.beq es' t.es)))
 |_,_=>.fail
theorem Jc2(l:List α)(j:Nat)(h:j<l.length):l.toArray[j]! = l[j]:=by
 rw[getElem!_pos l.toArray j (by simpa using h)]
 simp
theorem yf7 {f : FuncId} {et : Nat} {srt : List α → List α} (hcall : Ab1 P f) (hes : 0 < t.es) (he : ∀ x, t.row x = (enc x).map .v) (hx : ∀ r, t.ok r = true → r = t.row (t.rd r)) (h1 : ∀ x, ∀ v ∈ enc x, v.oneCell' = true)
  (hlen:∀l,(srt l).length=l.length) (hcl:∀blk off size w,CmpLays P g #[] enc t.es cf blk off size w)
  (hcon:∀(blk cap:Nat) (d:Array α) (w:World),(∀off size,CmpLays P g #[] enc t.es cf blk off size w)->HoldsK enc t.es w blk 0 d->blk<w.heap.size->d.size<4611686018427387904 ->
   Calls P f #[.slice (some ⟨blk,0,none⟩) d.size cap,.func (.func g) #[] #[]] w λe w'=>e=.returned (.tuple #[])/\∃n os,w'=sortWorldK enc t.es w blk 0 n (srt d.toList).toArray os) :
  g9 P G f (ff7 t g et srt):=by
 intro args blks r out hr W ρ F w args' hH hl hargs hG;refine⟨hcall,?_⟩;unfold ff7 at hr
 split at hr
 case h_2=>cases hr
 rename_i n g' et' es' el;cases hb0:Bool.and (Nat.beq g' g) (Bool.and (Nat.beq et' et) (Nat.beq es' t.es)) with
 |false=>rw[hb0] at hr;cases hr
 |true =>
 rw[hb0] at hr;rw[Qju,Qju] at hb0;have q1:=Qjt hb0.1;have q2:=Qjt hb0.2.1;have q3:=Qjt hb0.2.2;subst q1 q2 q3;obtain⟨hg0,hr⟩:=DT.run_guard_some hr;rw[Qju,Qju] at hg0;have hroom:n<=room:=Qjao hg0.1;have hn:=Qjao hg0.2.1;rw[o0] at hn;have hok:=hg0.2.2;injection hr with hr;injection hr with p1 p2;subst p1 p2
 match args',hl with
 |[v0,v1],_ =>
 obtain⟨a,cap,b,rfl,hb,hd,_,hncap,hspot,hcap,hq⟩:=Ra5 (hargs 0 _ _ rfl rfl);obtain⟨vs1,rfl,hvs1,_⟩:=Ub7 (hargs 1 _ _ rfl rfl);have hvs1:vs1=#[]:=Array.eq_empty_of_size_eq_zero (by simpa using hvs1.symm)
 subst hvs1;rw[yb5] at *
 have hb:b=⟨et',t.es,el,true,false,0⟩:=by simpa using hb.symm
 subst hb;obtain⟨ha,hsz,hne⟩:=hq rfl;have ha:a=⟨(ρ 0).blk,(ρ 0).off+0*t.es,none⟩:=ha.resolve_left λh=>by omega
 obtain⟨cc,tt,fr,hB⟩:=hH.blk 0 _ rfl rfl;obtain⟨hfr,hW,hoff,hsize,hnF,het⟩:=hB.own rfl;subst hfr;rw[hoff,Nat.zero_mul,Nat.add_zero] at ha;subst ha;generalize hbk:(ρ 0).blk=blk at *
 -- the rows asq data
 have hrow:∀j,j<n->l9 el j=(enc (gL t (slR t el 0 n) j)).map .v:=λj hj=>by
  have h2:t.ok (l9 el (0+j))=true:=List.all_eq_true.1 hok j (by simpa using hj)
  rw[Qja] at h2;rw[<- he,slR,Be4 t _ hj,Qja];exact hx _ h2
 have hld:(slR t el 0 n).length=n:=Qd0 ..;have hk:∀x,(enc x).length=t.es:=λx=>by have:=t.h0 x;rw[o0,he] at this;simpa using this
 have hlt:blk<w.heap.size:=by
  have:=hB.obj
  rcases Nat.lt_or_ge blk w.heap.size with h|h
  ·exact h
  ·rw[hbk,Qjam h] at this;cases this
 have hobj:w.heap[blk]?=some (.cells cc tt (0,0)):=by rw[<- hbk];exact hB.obj
 have hgd:∀(l:List α) (j:Nat) (h:j<l.length),gL t l j=l[j]:=λl j h=>by simp[gL,Qjw,Qjj h]
 have hdm:∀q,q<n*t.es->q / t.es<n/\q % t.es<t.es/\(q / t.es)*t.es+q % t.es=q:=λq hq=>⟨Nat.div_lt_of_lt_mul (by rw[Nat.mul_comm];exact hq),Nat.mod_lt _ hes,Nat.div_add_mod' q t.es⟩
 have hrowAt:∀j,j<el.length->el[j]?=some (l9 el j):=λj hj=>by
  unfold l9;rw[C5,Qjj hj]
 have hH0:HoldsK enc t.es w blk 0 (slR t el 0 n).toArray:=by
  intro q hq;have hq:q<n*t.es:=by rw[size_flatK] at hq;simpa [hld] using hq
  obtain⟨e1,e2,e3⟩:=hdm q hq;rw[get_flatK _ _ _ _ (by simpa [hld] using hq),Jc2 _ _ (by rw[hld];exact e1),<- hgd _ _ (by rw[hld];exact e1)]
  have hcx:(l9 el (q / t.es))[q % t.es]?=some (.v ((enc (gL t (slR t el 0 n) (q / t.es)))[q % t.es]!)):=by
   rw[hrow _ e1,Qjy,Qjj (by rw[hk];exact e2),getElem!_pos _ _ (by rw[hk];exact e2)]
   rfl
  obtain⟨x',h5,h6⟩:=hB.cell (q / t.es) _ (q % t.es) _ (hrowAt _ (by omega)) hcx
  have h6:x'=(enc (gL t (slR t el 0 n) (q / t.es)))[q % t.es]! :=by cases h6;rfl
  subst h6;rw[hoff] at h5;simp only[e3,Qja] at h5;constructor
  ·simp only[World.cell?,hobj,Qja];simpa using h5
  ·simp[World.frozen?,hobj]
 have hds:(slR t el 0 n).toArray.size=n:=by simpa using hld
 have hmax:n<4611686018427387904:=by unfold room at hroom;omega
 have hcalls:=hcon blk cap (slR t el 0 n).toArray w (λoff size=>hcl blk off size w) hH0 hlt (by rw[hds];exact hmax)
 rw[hds] at hcalls;refine hcalls.mono λe w' ⟨h5,m,os,h6⟩=>⟨_,h5,ρ,F,?_⟩
 generalize hsd:srt (slR t el 0 n)=sd at *
 have hsl:sd.length=n:=by rw[<- hsd,hlen,hld]
 have h6:w'=grow (mapBlock (Sort.ahead w m) blk (putCells id 0 (flatK enc t.es sd.toArray))) os:=h6;have hw'size:w'.heap.size=w.heap.size+os.size:=by rw[h6];simp[mapBlock]
 have hold:∀k,k<w.heap.size->k≠blk->w'.heap[k]?=w.heap[k]?:=λk h7 h8=>by
  rw[h6];simp only[grow,mapBlock];rw[Qjx (by simpa using h7),Qjap]
  simp[Ne.symm h8]
 have hnew:w'.heap[blk]?=some (.cells (putCells id 0 (flatK enc t.es sd.toArray) cc) tt (0,0)):=by
  rw[h6];simp only[grow,mapBlock];rw[Qjx (by simpa using hlt),Qjap]
  simp[hobj,onCells]
 have hcells:∀b o,F b o->w'.cell? ⟨b,o,none⟩=w.cell? ⟨b,o,none⟩:=λb o hf=>by
  have h7:b≠blk:=λh8=>hnF o (h8 ▸ hf)
  have:=Ub5 (hH.frz b o hf)
  simp only[World.cell?,hold b this h7]
 have hpc:∀q,q<cc.size->(putCells id 0 (flatK enc t.es sd.toArray) cc)[q]?=if q<n*t.es then some ((enc sd.toArray[q / t.es]!)[q % t.es]!) else cc[q]?:=λq hq=>by
  simp only[putCells,Array.getElem?_mapIdx,Array.getElem?_eq_getElem hq,Option.map_some,size_flatK,Qjz,true_and,Qja,Nat.sub_zero,id]
  have:sd.toArray.size=n:=by simpa using hsl
  rw[this];split
  ·next h7=>rw[get_flatK _ _ _ _ (by rw[this];exact h7)]
  ·rfl
 have hel:(app (bL t sd) (j7 el n)).length=el.length:=by
  rw[G9,Qjc,<- o0 (bL t sd),U9,hsl,O1,Qjv];omega
 have hnrow:∀(j:Nat) r,(app (bL t sd) (j7 el n))[j]?=some r->(j<n/\r=t.row (gL t sd j))\/(n<=j/\el[j]?=some r):=λj r hr=>by
  have hlb:(bL t sd).length=n:=by rw[<- o0,U9,hsl]
  rw[G9] at hr
  rcases Nat.lt_or_ge j n with h7|h7
  ·rw[List.getElem?_append_left (by omega)] at hr
   left;refine⟨h7,?_⟩;unfold bL at hr;rw[p6,Qjy,Qjj (by omega)] at hr
   injection hr with hr;rw[<- hr,hgd sd j (by omega)]
  ·rw[List.getElem?_append_right (by omega),hlb,O1,List.getElem?_drop] at hr
   right;exact⟨h7,by rw[<- hr];congr 1;omega⟩
 have hcs:el.length*t.es<=cc.size:=by have:=hB.len;rw[hsize] at this;exact this
 refine⟨⟨⟨?_,?_,?_,by omega,λk h7 h8=>hold k h7 λh9=>h8 (h9 ▸ hW),hcells,?_⟩,λid b hb=>?_,λ_ _ h=>h,λ_ _ h=>.inl h,λid b' hb' hn'=>?_⟩,⟨λid b hb hd'=>?_,λid id' b b' hb hb' h7 h8 h9 h10=>?_,λb o hf=>by rw[hcells b o hf];exact hH.frz b o hf,λk hk'=>hH.new k (by omega)⟩,.ofv _⟩
 ·rw[h6];rfl
 ·rw[h6];rfl
 ·rw[h6];rfl
 ·rw[h6];exact Nat.le_add_right _ _
 ·match id,hb with
  |0,hb =>
   cases hb;exact⟨_,rfl,rfl,Qji _,λ_=>⟨rfl,rfl,by simp only[hel];exact Qji _⟩⟩
 ·match id,hb' with
  |0,hb'=>cases hb';exact absurd rfl (hn' ⟨et',t.es,el,true,false,0⟩ rfl)
 ·match id,hb with
  |0,hb =>
   cases hb;refine⟨_,tt,(0,0),by rw[hbk];exact hnew,?_,?_,?_,?_,λ_=>⟨rfl,by rw[hbk];exact hW,hoff,?_,by rw[hbk];exact hnF,het⟩,λh=>by cases h⟩
   ·rw[hoff,hsize];simp[putCells]
   ·simp only[hel];exact hB.len
   ·intro j r hr
    rcases hnrow j r hr with⟨_,h8⟩|⟨_,h8⟩
    ·rw[h8,<- o0];exact t.h0 _
    ·exact hB.rows j r h8
   ·intro j r c x hr hc;rw[hoff,Qja]
    rcases hnrow j r hr with⟨h7,h8⟩|⟨h7,h8⟩
    ·subst h8;have hclt:c<t.es:=by
      have:=(List.getElem?_eq_some_iff.1 hc).1
      rw[<- o0,t.h0] at this;exact this
     have hq:j*t.es+c<n*t.es:=by
      have:=Qjad t.es (show j+1<=n from h7)
      rw[Nat.add_mul,Nat.one_mul] at this;omega
     have hqn:n*t.es<=el.length*t.es:=Qjad _ hn;have e1:(j*t.es+c) / t.es=j:=by rw[Nat.mul_comm,Nat.mul_add_div hes,Nat.div_eq_of_lt hclt,Nat.add_zero]
     have e2:(j*t.es+c) % t.es=c:=by rw[Nat.mul_comm,Nat.mul_add_mod,Nat.mod_eq_of_lt hclt]
     rw[he,Qjy,Qjj (by rw[hk];exact hclt)] at hc
     injection hc with hc;subst hc;refine⟨(enc (gL t sd j))[c]'(by rw[hk];exact hclt),?_,.v _ (h1 _ _ (List.getElem_mem _))⟩
     rw[hpc _ (Nat.lt_of_lt_of_le hq (Nat.le_trans hqn hcs)),if_pos hq,e1,e2,Jc2 _ _ (by omega),hgd sd j (by omega),getElem!_pos _ _ (by rw[hk];exact hclt)]
    ·obtain⟨x',h9,h10⟩:=hB.cell j r c x h8 hc;rw[hoff,Qja] at h9;have hq:¬ j*t.es+c<n*t.es:=by
      have:=Qjad t.es h7
      omega
     have hlt':j*t.es+c<cc.size:=(Array.getElem?_eq_some_iff.1 h9).1;exact⟨x',by rw[hpc _ hlt',if_neg hq];exact h9,h10.adv (λ_ _ h=>h) hcells⟩
   ·rw[hsize];simp[putCells]
 ·match id,hb,id',hb' with
  |0,hb,0,hb'=>exact absurd rfl h10
end
end Go.Ev.L
namespace Go.Proofs
open Go.Shelf
set_option maxRecDepth 100000 in
def Ce.sortLay_ren:Go.Shelf.Ren:=⟨fun | 6=>121 | 15=>180 | 14=>179 | 28=>207 | 29=>208 | 20=>199 | 21=>200 | 22=>201 | 23=>202 | 24=>203 | 25=>204 | 26=>205 | 27=>206 | 46=>223 | 47=>224 | 48=>225 | 49=>226 | 50=>227 | 57=>233 | n=>n,fun | 22=>24 | 24=>73 | 25=>148 | 3=>3 | 39=>173 | 0=>0 | 53=>197 | 55=>199 | 4=>4 | 46=>191 | 45=>190 | 50=>50 | 5=>5 | 9=>9 | 66=>210 | 70=>214 | 76=>218 | 77=>219 | n=>n,fun | n=>n⟩
set_option maxRecDepth 100000 in
theorem Ce.sortLay:Go.Proofs.SlLaysF0.n6 Tryz.prog Ce.sortLay_ren:={
 mixed:=by kernel_rfl
 f6:=⟨Tryz.f121.name,by decide,Tryz.func121.trans (congrArg some (by kernel_rfl))⟩
 f14:=⟨Tryz.f179.name,by decide,Tryz.func179.trans (congrArg some (by kernel_rfl))⟩
 f15:=Tryz.func180.trans (congrArg some (by kernel_rfl))
 f20:=⟨Tryz.f199.name,by decide,Tryz.func199.trans (congrArg some (by kernel_rfl))⟩
 f21:=⟨Tryz.f200.name,by decide,Tryz.func200.trans (congrArg some (by kernel_rfl))⟩
 f22:=⟨Tryz.f201.name,by decide,Tryz.func201.trans (congrArg some (by kernel_rfl))⟩
 f23:=⟨Tryz.f202.name,by decide,Tryz.func202.trans (congrArg some (by kernel_rfl))⟩
 f24:=⟨Tryz.f203.name,by decide,Tryz.func203.trans (congrArg some (by kernel_rfl))⟩
 f25:=⟨Tryz.f204.name,by decide,Tryz.func204.trans (congrArg some (by kernel_rfl))⟩
 f26:=⟨Tryz.f205.name,by decide,Tryz.func205.trans (congrArg some (by kernel_rfl))⟩
 f27:=⟨Tryz.f206.name,by decide,Tryz.func206.trans (congrArg some (by kernel_rfl))⟩
 f28:=Tryz.func207.trans (congrArg some (by kernel_rfl))
 f29:=Tryz.func208.trans (congrArg some (by kernel_rfl))
 f46:=⟨Tryz.f223.name,by decide,Tryz.func223.trans (congrArg some (by kernel_rfl))⟩
 f47:=Tryz.func224.trans (congrArg some (by kernel_rfl))
 f48:=Tryz.func225.trans (congrArg some (by kernel_rfl))
 f49:=⟨Tryz.f226.name,by decide,Tryz.func226.trans (congrArg some (by kernel_rfl))⟩
 f50:=⟨Tryz.f227.name,by decide,Tryz.func227.trans (congrArg some (by kernel_rfl))⟩
 f57:=⟨Tryz.f233.name,by decide,Tryz.func233.trans (congrArg some (by kernel_rfl))⟩
 t0:=Tryz.underlying0
 a0:=Tryz.isAgg0
 z0:=Tryz.sizeOf0
 v0:=Tryz.zeroValue0
 t3:=Tryz.underlying3
 a3:=Tryz.isAgg3
 z3:=Tryz.sizeOf3
 v3:=Tryz.zeroValue3
 t4:=Tryz.underlying4
 a4:=Tryz.isAgg4
 z4:=Tryz.sizeOf4
 v4:=Tryz.zeroValue4
 t5:=Tryz.underlying5
 a5:=Tryz.isAgg5
 z5:=Tryz.sizeOf5
 v5:=Tryz.zeroValue5
 t9:=Tryz.underlying9
 a9:=Tryz.isAgg9
 z9:=Tryz.sizeOf9
 v9:=Tryz.zeroValue9
 t22:=Tryz.underlying24
 a22:=Tryz.isAgg24
 z22:=Tryz.sizeOf24
 v22:=Tryz.zeroValue24
 t25:=Tryz.underlying148
 a25:=Tryz.isAgg148
 z25:=Tryz.sizeOf148
 v25:=Tryz.zeroValue148
 t39:=Tryz.underlying173
 a39:=Tryz.isAgg173
 z39:=Tryz.sizeOf173
 v39:=Tryz.zeroValue173
 t45:=Tryz.underlying190
 a45:=Tryz.isAgg190
 z45:=Tryz.sizeOf190
 v45:=Tryz.zeroValue190
 t46:=Tryz.underlying191
 a46:=Tryz.isAgg191
 z46:=Tryz.sizeOf191
 v46:=Tryz.zeroValue191
 t50:=Tryz.underlying50
 a50:=Tryz.isAgg50
 z50:=Tryz.sizeOf50
 v50:=Tryz.zeroValue50
 t53:=Tryz.underlying197
 a53:=Tryz.isAgg197
 z53:=Tryz.sizeOf197
 v53:=Tryz.zeroValue197
 t55:=Tryz.underlying199
 a55:=Tryz.isAgg199
 z55:=Tryz.sizeOf199
 v55:=Tryz.zeroValue199
 t66:=Tryz.underlying210
 a66:=Tryz.isAgg210
 z66:=Tryz.sizeOf210
 v66:=Tryz.zeroValue210
 t70:=Tryz.underlying214
 a70:=Tryz.isAgg214
 z70:=Tryz.sizeOf214
 v70:=Tryz.zeroValue214
 t76:=Tryz.underlying218
 a76:=Tryz.isAgg218
 z76:=Tryz.sizeOf218
 v76:=Tryz.zeroValue218
 t77:=Tryz.underlying219
 a77:=Tryz.isAgg219
 z77:=Tryz.sizeOf219
 v77:=Tryz.zeroValue219 }
end Go.Proofs
namespace Go.Ev.Ce
open Go Go.Ev Go.Ev.L Go.Proofs Go.Sort
def kb9(x y:Int):Int:=if x<y then -1 else if x>y then 1 else 0
def na1(x y:Pln):Int :=
 if kb9 x.n.x y.n.x=0 then if kb9 x.n.y y.n.y=0 then if kb9 x.n.z y.n.z=0 then kb9 x.b y.b else kb9 x.n.z y.n.z else kb9 x.n.y y.n.y else kb9 x.n.x y.n.x
theorem ed5(x y:Int):kb9 x y<0↔x<y:=by unfold kb9;split<;>(try split)<;>omega
theorem Vd2(x y:Int):kb9 x y=0↔x=y:=by unfold kb9;split<;>(try split)<;>omega
def LtP(x y:Pln):Prop:=x.n.x<y.n.x\/x.n.x=y.n.x/\(x.n.y<y.n.y\/x.n.y=y.n.y/\(x.n.z<y.n.z\/x.n.z=y.n.z/\x.b<y.b))
instance(x y:Pln):Decidable (LtP x y):=by unfold LtP;exact inferInstance
theorem Vd3(x y:Pln):na1 x y<0↔LtP x y:=by
 have h1:=ed5 x.n.x y.n.x;have h2:=Vd2 x.n.x y.n.x;have h3:=ed5 x.n.y y.n.y;have h4:=Vd2 x.n.y y.n.y;have h5:=ed5 x.n.z y.n.z;have h6:=Vd2 x.n.z y.n.z;have h7:=ed5 x.b y.b;unfold na1 LtP;split
 ·split
  ·split<;>omega
  ·omega
 ·omega
theorem lb0(x y:Pln):ltOf na1 x y=decide (LtP x y):=by
 unfold ltOf;rw[decide_eq_decide];exact Vd3 x y
theorem bg2:SWO (ltOf na1) where
 irrefl x:=by rw[lb0];simp[LtP]
 trans x y z h1 h2:=by rw[lb0,decide_eq_true_eq] at *;unfold LtP at *;omega
 ntrans x y z h1 h2:=by rw[lb0,decide_eq_false_iff_not] at *;unfold LtP at *;omega
theorem og3(x y:Pln)(h1:ltOf na1 x y=false)(h2:ltOf na1 y x=false):x=y:=by
 rw[lb0,decide_eq_false_iff_not] at *
 unfold LtP at *
 obtain⟨⟨a,b,c⟩,d⟩:=x;obtain⟨⟨a',b',c'⟩,d'⟩:=y
 simp only at *
 have:a=a'/\b=b'/\c=c'/\d=d':=by omega
 obtain⟨rfl,rfl,rfl,rfl⟩:=this;rfl
theorem le5(x y:Int):Ua4 x y=some (i (kb9 x y),[]):=by
 unfold Ua4 kb9;simp only[Ab6,decide_eq_true_eq]
 split<;>(try split)<;>rfl
theorem Fe2(x y:Int):oa2 x y=kb9 x y:=by unfold oa2;rw[le5];rfl
theorem Fe3(x y:Int):oa3 x y=true:=by unfold oa3;rw[le5];rfl
theorem qd7(x y:Pln):Fa6 x y=some (i (na1 x y),[]):=by
 unfold Fa6 na1;simp only[Fe2,Fe3,Ab6,beq_iff_eq,if_true]
 repeat' (first | rfl | split)
theorem bg3(x y:Pln):Wa3 x y=na1 x y:=by unfold Wa3;rw[qd7];rfl
theorem bg4(x y:Pln):Wa4 x y=true:=by unfold Wa4;rw[qd7];rfl
theorem bg5(x y:Pln):(ub1 [.agg (tP.row x),.agg (tP.row y)] []).run=some (i (na1 x y),[]):=by
 have:(ub1 [.agg (tP.row x),.agg (tP.row y)] []).run=sel (Wa4 x y) (some (i (Wa3 x y),[])) none:=by kernel_rfl
 rw[this,bg4,bg3]
def Oc4(p:Pln):List Value:=[.int .i64 p.n.x,.int .i64 p.n.y,.int .i64 p.n.z,.int .i64 p.b]
instance:Inhabited Pln:=⟨⟨⟨0,0,0⟩,0⟩⟩
def Za4(l:List Pln):List Pln:=l.mergeSort λx y=>!ltOf na1 y x
theorem rc6(l:List Pln):(Za4 l).length=l.length:=List.length_mergeSort l
noncomputable def Aa6:Sum:=ff7 tP 122 73 Za4
theorem ff8:Ce.sortLay_ren.f 6=121:=by kernel_rfl
theorem Jd1:Ce.sortLay_ren.t 24=73:=by kernel_rfl
set_option maxRecDepth 100000 in
theorem Ua5:g9 prog G 121 Aa6:=by
 refine yf7 (enc:=Oc4) (cf:=na1) ⟨_,Tryz.func121,by kernel_rfl,of_decide_eq_true (by kernel_rfl)⟩ (by decide) (λ_=>rfl) (λr h=>jb3 (n:=4) h) (λx v hv=>?_) rc6
  (λblk off size w=>yf6 Rc3 bg5 (λ_=>rfl) (λ_=>rfl) _ _ _ _ _) (λblk cap d w hcl hH hb hs=>?_)
 ·simp[Oc4] at hv
  rcases hv with rfl|rfl|rfl|rfl<;>rfl
 ·have eg:∀args w,(callFunc 122 args).run Tryz.prog w=.ok (.enter 122 args) w:=enters_of Tryz.func122 (by kernel_rfl) rfl
  have:=AnyQ.slices_SortFunc Ce.sortLay 4 (by rw[Jd1];exact Tryz.isAgg73) (by rw[Jd1];exact Tryz.sizeOf73) Oc4 (λ_=>rfl) (λx v hv=>by simp[Oc4] at hv;rcases hv with rfl | rfl | rfl | rfl<;>rfl) na1 bg2 122 #[] blk 0 cap d w eg (hcl 0 d.size) hH hb hs
  rw[ff8] at this;refine this.mono λe w' ⟨h1,d',n,os,h2,h3,h4⟩=>⟨h1,n,os,?_⟩
  have h5:=sorted_unique_holds bg2 og3 d d' h2 h3;rw[h4];show _=sortWorldK Oc4 4 w blk 0 n (d.toList.mergeSort λx y=>!ltOf na1 y x).toArray os
  rw[<- h5]
end Go.Ev.Ce
namespace Go.Ev.Ce
open Go Go.Ev Go.Ev.L Go.Proofs
set_option maxRecDepth 100000
noncomputable def ec3:List (Nat×Sum):=[]
theorem Yb9:i9 prog G ec3:=trivial
structure va3 where
 (alt ns0:Nat)
 eh0:List (List b7)
noncomputable def V6{α:Type}(kk:va3->α)(x:Pln×List Pln):α:=(sl (Nat.beq (len (p5 (λk=>(tP).row (gL tP (x.1::x.2) k)) (List.range (List.length x.2+1)))) 0) (kk ⟨1,0,[]⟩) (sl (Nat.beq 0 0&&Nat.ble ((0+(len (p5 (λk=>(tP).row (gL tP (x.1::x.2) k)) (List.range (List.length x.2+1)))))*32) room) (kk ⟨1,(0+(len (p5 (λk=>(tP).row (gL tP (x.1::x.2) k)) (List.range (List.length x.2+1))))),(app [] (p5 (λk=>(tP).row (gL tP (x.1::x.2) k)) (List.range (List.length x.2+1))))⟩) (kk ⟨0,0,[]⟩)))
noncomputable def va4(x:Pln×List Pln):va3:=V6 (λr=>r) x
noncomputable def Ha5(r:va3):DT (b7×List b8):=(.ite (Nat.beq r.alt 1) (.ret (.sl 0 0 r.ns0 0,[⟨73,4,r.eh0,true,false,0⟩])) .fail)
theorem mc7{α β:Type}(F:α->β)(kk:va3->α)(x:Pln×List Pln):F (V6 kk x)=V6 (λr=>F (kk r)) x:=by unfold V6;(repeat' apply l6 (f:=F))<;>rfl
noncomputable def qb8:Sum:=X6 (Xe3 tP) (λx=>Ha5 (va4 x))
theorem ec4:g9 prog G 151 qb8:=Ib6 (bd Nf0 Yb9) λx=>v7 (Qjk (b:=V6 (λr=>(Ha5 r).run) x) (by kernel_rfl) (mc7 (λr=>(Ha5 r).run) (λr=>r) x).symm)
noncomputable def Vd4:List (Nat×Sum):=[(55,Za1),(113,mb6),(151,qb8),(150,sa5),(121,Aa6),(154,Da0)]
theorem Bd5:i9 prog G Vd4:=⟨db4,Db0,ec4,Ma1,Ua5,Za3,trivial⟩
noncomputable def qb9(x:Pln×List Pln):Option (b7×List b8):=let t1:=(Ba8 (rt tP (x.1::x.2)));let t2:=(Ga4 (rt tP (x.1::x.2)));let t3:=(va4 (hC tP (λk=>(tP).row (gL tP (x.1::x.2) k)),tC tP (List.length x.2) (λk=>(tP).row (gL tP (x.1::x.2) k))));let t4:=(J2 ⟨t3.ns0,t3.eh0,rt tX t2⟩);let t5:=(Z9 ⟨t4.ns0,app (bL tP (Za4 (slR tP t4.eh0 0 t4.ns0))) (j7 t4.eh0 t4.ns0)⟩);(sl (okE tP (x.1::x.2)) (sl (Ba9 (rt tP (x.1::x.2))) (sl (!t1) (some (.v (.slice none 0 0),[])) (sl (okE tP (x.1::x.2)) (sl (Ga5 (rt tP (x.1::x.2))) (sl (okL tP (List.length x.2+1) (λk=>(tP).row (gL tP (x.1::x.2) k))) (sl (Nat.beq t3.alt 1) (sl ((cnE tX t2)&&true) (sl (Nat.beq t4.alt 1) (sl (Bool.and (Nat.ble t4.ns0 room) (Bool.and (Nat.ble t4.ns0 (len t4.eh0)) (okS tP t4.eh0 0 t4.ns0))) (sl (Nat.beq t5.alt 1) (some (.sl 0 0 t5.ns0 0,[⟨73,4,t5.eh0,true,false,0⟩])) none) none) none) none) none) none) none) none)) none) none)
noncomputable def Wc6(x:Pln×List Pln):List Pln:=J8 (one (r1L tP)) (qb9 x)
noncomputable def Wc7(x:Pln×List Pln):Bool:=okO (one (r1L tP)) (qb9 x)
noncomputable def le6:Sum:=X6 (Xe3 tP) (λx=>.guard (Wc7 x) (.ret ((one (r1L tP)).enc (Wc6 x),[])))
theorem Vd5:g9 prog G 98 le6:=Ia9 (bd b98 Bd5) (one (r1L tP)) (o:=qb9) λx=>v7 (by kernel_rfl)
noncomputable def onc(X:List Pt)(p:Pln):Nat:=X.countP λx=>rm p x==0
noncomputable def keep(X:List Pt)(p:Pln):Bool:=!decide ((onc X p:Int)<3)
theorem qd8(p:Pln)(X:List Pt)(hX:X.length<=1000000000):xa2 ⟨p.n.x,p.n.y,p.n.z,p.b,X⟩=⟨1,!keep X p,X⟩:=by
 have h:=Fc2 (step:=Aa3 ⟨X,(X.length:Int),X,p.n.x,p.n.y,p.n.z,p.b⟩) (mk:=λj (n:Nat)=>(⟨(n:Int),(j:Int)⟩:U5)) (f:=λn x=>if rm p x==0 then n+1 else n) (fin:=1) tX X (λj n=>n<=j) hX
  (λj n hj hi=>by
   have hW:W ((n:Int)+1)=((n+1:Nat):Int):=by rw[ka3 (by omega) (by omega)];omega
   refine⟨?_,by show (if rm p (gL tX X j)==0 then n+1 else n)<=j+1;split<;>omega⟩
   simp only[Aa3,va2,Int.toNat_natCast,Sd8,hW,n8 hj (show X.length<=4611686018427387904 by omega)]
   rw[btD (f9 hj),bt (e8 hj)];cases rm p (gL tX X j)==0<;>rfl)
  (λn _=>by simp only[Aa3,va2];rw[bfD (l7 (Qjat _))]) 0 (Qjz _) 0 (Qji _)
 have h:=h.1;have e:∀(l:List Pt) (n:Nat),l.foldl (λn x=>if rm p x==0 then n+1 else n) n=n+l.countP λx=>rm p x==0:=by
  intro l
  induction l with
  |nil=>intro n;rfl
  |cons x l ih =>
   intro n;rw[List.foldl_cons,ih,List.countP_cons]
   split<;>omega
 rw[Qjaq,e,Qja] at h;unfold xa2 Ga8 keep onc;simp only[g8,i7];rw[show (⟨0,0⟩:U5)=⟨((0:Nat):Int),((0:Nat):Int)⟩ from rfl,h]
 show Ga7.mk 1 (decide _) X=Ga7.mk 1 (!(!(decide _))) X;rw[Bool.not_not]
theorem yf8(l:List Pln)(X:List Pt)(hl:l.length<=1000000000)(hX:X.length<=1000000000):ca9 ⟨l.length,bL tP l,X⟩=⟨1,if l.any (λp=>!keep X p) then ((l.findIdx (λp=>!keep X p):Nat):Int) else -1,X⟩:=by
 have h:=Va6 (step:=L0 ⟨l.length,(l.length:Int),bL tP l⟩) (mk:=λj=>(⟨(j:Int),X⟩:q8)) (c:=λp=>!keep X p) (u:=1) (fin:=2) tP l hl
  (λj hj=>by
   simp only[L0,I0,Int.toNat_natCast,g8,i7,ed2 hj,Jc0 hj,qd8 _ _ hX,n8 hj (show l.length<=4611686018427387904 by omega)]
   rw[btD (f9 hj),bt (e8 hj)]
   rfl)
  (by simp only[L0,I0];rw[bfD (l7 (Qjat _))]) 0 (Qjz _)
 rw[Qjaq] at h;unfold ca9 J0;simp only[g8,i7];rw[show (⟨0,X⟩:q8)=⟨((0:Nat):Int),X⟩ from rfl,h]
 cases ha:l.any λp=>!keep X p with
 |false=>rfl
 |true =>
  have hf:l.findIdx (λp=>!keep X p)<l.length:=by
   rw[Qjal] at ha;obtain⟨p,hp,hc⟩:=ha;exact Qjab ⟨p,hp,hc⟩
  simp only[if_true,Qja,Int.toNat_natCast,Jc0 hf,qd8 _ _ hX,g8];rfl
theorem Jc3{α:Type}(c:α->Bool):∀l:List α,(l.take (l.findIdx c)).filter (λx=>!c x)=l.take (l.findIdx c)
 |[]=>rfl
 |x::l=>by
  rw[Qjah];cases h:c x with
  |true=>rfl
  |false =>
   simp only[cond_false,List.take_succ_cons,Qjac,h,Bool.not_false,if_true];rw[Jc3 c l]
theorem xe5{α:Type}(l:List α)(j:Nat)(h:j<l.length):l.take (j+1)=l.take j++[l[j]]:=by rw[Qjo h]
theorem ed6{α:Type}(t:Ty α){l:List α}{j:Nat}(h:j<l.length):l.take (j+1)=l.take j++[gL t l j]:=by rw[xe5 l j h,Ya7 t h]
theorem Rc4{α:Type}(t:Ty α){l r:List α}{j:Nat}(h:l.drop j=r.drop j):gL t l j=gL t r j:=by
 have h1:=Ic1 t l j 0;have h2:=Ic1 t r j 0;rw[Nat.add_zero] at h1 h2;rw[<- h1,<- h2,h]
theorem Jc4{α:Type}{l r:List α}{j:Nat}(h:l.drop j=r.drop j)(k:Nat):l.drop (j+k)=r.drop (j+k):=by rw[<- List.drop_drop,<- List.drop_drop,h]
structure Del(l:List Pln)(f:Pln->Bool)(cur:List Pln)(m j:Nat):Prop where
 len:cur.length=l.length
 t:cur.take m=(l.take j).filter f
 d:cur.drop j=l.drop j
 le:m<=j
 lm:m<=l.length
theorem le7 (l : List Pln) (X : List Pt) (hl : l.length ≤ 1000000000) (hX : X.length ≤ 1000000000) (m j : Nat) (cur : List Pln) (hd : Del l (keep X) cur m j) :
  ∃t s,lp (E0 ⟨l.length⟩) ⟨(m:Int),(j:Int),bL tP cur,X⟩=(t,s)/\(t=1/\∃m' cur' k,s=⟨((m':Nat):Int),((k:Nat):Int),bL tP cur',X⟩/\Del l (keep X) cur' m' k/\l.length<=k):=by
 refine S3 (step:=E0 ⟨l.length⟩) (mk:=λj (x:Nat×List Pln)=>(⟨(x.1:Int),(j:Int),bL tP x.2,X⟩:u8)) l.length (λj x=>Del l (keep X) x.2 x.1 j) (λt s=>t=1/\∃m' cur' k,s=⟨((m':Nat):Int),((k:Nat):Int),bL tP cur',X⟩/\Del l (keep X) cur' m' k/\l.length<=k) hl (λj x hj hx=>?_) (λj x hj hx=>?_) j (m,cur) hd
 ·obtain⟨m,cur⟩:=x;obtain⟨h1,h2,h3,h4,h5⟩:=hx
  simp only at h1 h2 h3 h4 h5
  have hjc:j<cur.length:=by omega
  have hmc:m<cur.length:=by omega
  have hg:gL tP cur j=gL tP l j:=Rc4 tP h3;have hWm:W ((m:Int)+1)=((m+1:Nat):Int):=by rw[ka3 (by omega) (by omega)];omega
  have hb:Nat.blt m cur.length=true:=by rw[Qjaj];exact hmc
  have hrow:l9 (bL tP cur) m=tP.row (gL tP cur m):=ea8 tP hmc;have sp:∀(v:Pln) (x1 x2 x3 x4:Int),ea5 (tP.row v) 0 [i x1,i x2,i x3,i x4]=tP.row ⟨⟨x1,x2,x3⟩,x4⟩:=λ_ _ _ _ _=>rfl
  have rl:∀v:Pln,Nat.ble (0+4) (len (tP.row v))=true:=λ_=>rfl
  simp only[E0,I1,Int.toNat_natCast,g8,i7,ed2 hjc,Jc0 hjc,qd8 _ _ hX,n8 hj (show l.length<=4611686018427387904 by omega),hWm]
  rw[btD (f9 hj),bt (e8 hj)];simp only[Qja,hrow,U9,hb,sp,ic1,e8 (show m<l.length by omega),hg]
  have ht:=ed6 tP hj;have hd1:cur.drop (j+1)=l.drop (j+1):=Jc4 h3 1;cases hk:keep X (gL tP l j) with
  |true =>
   refine .nx ⟨(m+1,cur.set m (gL tP l j)),rfl,⟨by rw[Qjm];exact h1,?_,?_,by omega,by show m+1<=l.length;omega⟩⟩
   ·show (cur.set m (gL tP l j)).take (m+1)=_;rw[ht,Qjag,Qjo (by rw[Qjm];exact hmc),Qjar,List.take_set_of_le (Qji _),h2,Qjac,hk,if_pos rfl,List.filter_nil]
   ·show (cur.set m (gL tP l j)).drop (j+1)=_;rw[List.drop_set_of_lt (by omega),hd1]
  |false =>
   refine .nx ⟨(m,cur),rfl,⟨h1,?_,hd1,by omega,h5⟩⟩
   show cur.take m=_;rw[ht,Qjag,h2,Qjac,hk,if_neg (by simp),List.filter_nil,Qjae]
 ·obtain⟨m,cur⟩:=x;refine⟨1,?_,rfl,m,cur,j,rfl,hx,hj⟩;simp only[E0,I1];rw[bfD (by omega)]
theorem Fe4(l:List Pln)(n:Nat):N8 (bL tP l) n=bL tP (l.take n):=by unfold bL;rw[O0,p6,p6,List.map_take]
theorem Vd6(l:List Pln)(n:Nat):j7 (bL tP l) n=bL tP (l.drop n):=by unfold bL;rw[O1,p6,p6,List.map_drop]
theorem Fe5(n:Nat):List.replicate n [i 0,i 0,i 0,i 0]=bL tP (List.replicate n ⟨⟨0,0,0⟩,0⟩):=by unfold bL;rw[p6,List.map_replicate];rfl
theorem Jd2 (l : List Pln) (X : List Pt) (hl : l.length ≤ 1000000000) (hX : X.length ≤ 1000000000) :
  ∃m r,J2 ⟨l.length,bL tP l,X⟩=⟨1,m,bL tP r,X⟩/\m<=r.length/\r.take m=l.filter (keep X)/\r.length=l.length:=by
 unfold J2 J1;simp only[g8,i7,yf8 l X hl hX];cases ha:l.any λp=>!keep X p with
 |false =>
  refine⟨l.length,l,rfl,Qji _,?_,rfl⟩;rw[List.take_length]
  symm
  rw[List.filter_eq_self];intro p hp
  have:=List.any_eq_false.1 ha p hp
  simpa using this
 |true =>
  have hf:l.findIdx (λp=>!keep X p)<l.length:=by
   rw[Qjal] at ha;obtain⟨p,hp,hc⟩:=ha;exact Qjab ⟨p,hp,hc⟩
  have hk:keep X (gL tP l (l.findIdx λp=>!keep X p))=false:=by
   have:=List.findIdx_getElem (xs:=l) (p:=λp=>!keep X p) (w:=hf)
   rw[Ya7 tP hf];simpa using this
  have ht:=Jc3 (λp=>!keep X p) l
  simp only[Bool.not_not] at ht;generalize hF:l.findIdx (λp=>!keep X p)=F at *
  have hW:W ((F:Int)+1)=((F+1:Nat):Int):=n8 hf (by omega)
  have hne:((F:Int)==-1)=false:=by rw[beq_eq_false_iff_ne];omega
  obtain⟨t,s,e1,rfl,m,cur,k,e2,e3,e4⟩:=le7 l X hl hX F (F+1) l ⟨rfl,by rw[ed6 tP hf,Qjag,ht,Qjac,hk,if_neg (by simp),List.filter_nil,Qjae],rfl,by omega,by omega⟩
  have hm:m<=l.length:=e3.lm;have hin:inB (m:Int) (l.length+1)=true:=e8 (by omega)
  have hfin:cur.take m=l.filter (keep X):=by rw[e3.t,Qjan e4]
  simp only[if_true,hW,hne,e1,e2,Int.toNat_natCast,hin,Qja,Nat.sub_zero];refine⟨m,cur.take m++(List.replicate (l.length-m) ⟨⟨0,0,0⟩,0⟩++cur.drop (m+(l.length-m))),?_,?_,?_,?_⟩
  ·rw[Fe4,Fe5,Vd6,Xa2,Xa2];rfl
  ·rw[Qjc,Qjc,Qjb,Qjas,e3.len];omega
  ·rw[Qjr (by rw[Qjb,e3.len];omega),List.take_take,Nat.min_self,hfin]
  ·rw[Qjc,Qjc,Qjb,Qjas,Qjv,e3.len];omega
def eqP(x y:Pln):Bool:=x.n.x==y.n.x&&(x.n.y==y.n.y&&(x.n.z==y.n.z&&(x.b==y.b&&true)))
theorem Kb0(x y:Pln):eqP x y=true↔x=y:=by
 unfold eqP;simp only[Qjn,Qju,beq_iff_eq];refine⟨λ⟨h1,h2,h3,h4⟩=>?_,λh=>by subst h;exact⟨rfl,rfl,rfl,rfl⟩⟩
 obtain⟨⟨x1,x2,x3⟩,x4⟩:=x;obtain⟨⟨y1,y2,y3⟩,y4⟩:=y
 simp only at h1 h2 h3 h4
 subst h1 h2 h3 h4;rfl
def ddF:Pln->List Pln->List Pln
 |_,[]=>[]
 |a,x::l=>if eqP x a then ddF x l else x::ddF x l
def dd:List Pln->List Pln
 |[]=>[]
 |x::l=>x::ddF x l
theorem Fe6:∀(a:Pln) (l:List Pln),(ddF a l).length<=l.length
 |_,[]=>Qji _
 |a,x::l=>by
  have:=Fe6 x l
  unfold ddF
  split<;>simp only[List.length_cons]<;>omega
structure Cmp(l:List Pln)(n:Nat)(cur:List Pln)(m j:Nat)(R:List Pln):Prop where
 len:cur.length=l.length
 t:cur.take m++ddF (gL tP l (j-1)) ((l.take n).drop j)=R
 d:cur.drop (j-1)=l.drop (j-1)
 le:m+1<=j
theorem Vd7 (l : List Pln) (n o : Nat) (hn : n ≤ l.length) (hl : l.length ≤ 1000000000) (ho : o < n) (m : Nat) (cur : List Pln) (R : List Pln) (hd : Cmp l n cur m (o + 1) R) :
  ∃t s,lp (s9 ⟨n,0+o,n-o⟩) ⟨(m:Int),((1:Nat):Int),bL tP cur⟩=(t,s)/\(t=1/\∃m' cur' k,s=⟨((m':Nat):Int),k,bL tP cur'⟩/\cur'.length=l.length/\cur'.take m'=R/\m'<=n):=by
 refine S3 (step:=s9 ⟨n,0+o,n-o⟩) (mk:=λj (x:Nat×List Pln)=>(⟨(x.1:Int),(j:Int),bL tP x.2⟩:r4)) (n-o) (λj x=>Cmp l n x.2 x.1 (o+j) R/\1<=j/\x.1<=n) (λt s=>t=1/\∃m' cur' k,s=⟨((m':Nat):Int),k,bL tP cur'⟩/\cur'.length=l.length/\cur'.take m'=R/\m'<=n) (by omega) (λj x hj hx=>?_) (λj x hj hx=>?_) 1 (m,cur) ⟨hd,Qji _,by have:=hd.le;show m<=n;omega⟩
 ·obtain⟨m,cur⟩:=x;obtain⟨⟨h1,h2,h3,h4⟩,hj1,hmn⟩:=hx
  simp only at h1 h2 h3 h4 hmn
  have hoj:o+j<n:=by omega
  have hjc:o+j<cur.length:=by omega
  have hjc':o+(j-1)<cur.length:=by omega
  have hmc:m<cur.length:=by omega
  have hg':gL tP cur (o+(j-1))=gL tP l (o+j-1):=by rw[show o+(j-1)=o+j-1 by omega];exact Rc4 tP h3
  have hd1:cur.drop (o+j)=l.drop (o+j):=by have:=Jc4 h3 1;rw[show o+j-1+1=o+j by omega] at this;exact this
  have hg:gL tP cur (o+j)=gL tP l (o+j):=Rc4 tP hd1;have hWm:W ((m:Int)+1)=((m+1:Nat):Int):=by rw[ka3 (by omega) (by omega)];omega
  have hWj:W ((j:Int)-1)=((j-1:Nat):Int):=by rw[ka3 (by omega) (by omega)];omega
  have hb:Nat.blt m cur.length=true:=by rw[Qjaj];exact hmc
  have hrow:l9 (bL tP cur) m=tP.row (gL tP cur m):=ea8 tP hmc;have sp:∀(v:Pln) (x1 x2 x3 x4:Int),ea5 (tP.row v) 0 [i x1,i x2,i x3,i x4]=tP.row ⟨⟨x1,x2,x3⟩,x4⟩:=λ_ _ _ _ _=>rfl
  have rl:∀v:Pln,Nat.ble 4 (len (tP.row v))=true:=λ_=>rfl
  simp only[s9,O5,Int.toNat_natCast,Qja,hWj,te9 tP hjc,te9 tP hjc',te8 tP hjc,te8 tP hjc',n8 hj (show n-o<=4611686018427387904 by omega),hWm,hg,hg',hrow,U9,hb,sp,rl,ic1,e8 (show m<n by omega)]
  rw[btD (f9 hj)];simp only[e8 hj,e8 (show j-1<n-o by omega),g7,Bool.and_self]
  rw[show ((gL tP l (o+j)).n.x==(gL tP l (o+j-1)).n.x&&((gL tP l (o+j)).n.y==(gL tP l (o+j-1)).n.y&&((gL tP l (o+j)).n.z==(gL tP l (o+j-1)).n.z&&((gL tP l (o+j)).b==(gL tP l (o+j-1)).b&&true))))=eqP (gL tP l (o+j)) (gL tP l (o+j-1)) from rfl]
  have hcons:(l.take n).drop (o+j)=gL tP l (o+j)::(l.take n).drop (o+(j+1)):=by
   rw[Qjak (by rw[Qjb];omega),List.getElem_take,Ya7 tP (by omega)]
   rfl
  rw[hcons] at h2;have hlast:o+(j+1)-1=o+j:=by omega
  unfold ddF at h2;cases he:eqP (gL tP l (o+j)) (gL tP l (o+j-1)) with
  |true =>
   rw[he] at h2;simp only[if_true] at h2;refine .nx ⟨(m,cur),rfl,⟨⟨h1,?_,?_,by show m+1<=o+(j+1);omega⟩,by omega,hmn⟩⟩
   ·rw[hlast];exact h2
   ·rw[hlast];exact hd1
  |false =>
   rw[he] at h2;simp only[Bool.false_eq_true,if_false] at h2;refine .nx ⟨(m+1,cur.set m (gL tP l (o+j))),rfl,⟨⟨by rw[Qjm];exact h1,?_,?_,by show m+1+1<=o+(j+1);omega⟩,by omega,by show m+1<=n;omega⟩⟩
   ·rw[hlast];show (cur.set m (gL tP l (o+j))).take (m+1)++_=R;rw[Qjo (by rw[Qjm];exact hmc),Qjar,List.take_set_of_le (Qji _),Qjai]
    exact h2
   ·rw[hlast];show (cur.set m (gL tP l (o+j))).drop (o+j)=_;rw[List.drop_set_of_lt (by omega),hd1]
 ·obtain⟨m,cur⟩:=x;obtain⟨⟨h1,h2,h3,h4⟩,hj1,hmn⟩:=hx
  simp only at h1 h2 h3 h4 hmn
  refine⟨1,?_,rfl,m,cur,_,rfl,h1,?_,hmn⟩
  ·simp only[s9,O5];rw[bfD (by omega)]
  ·rw[Qjaa (by rw[Qjb];omega)] at h2
   unfold ddF at h2;rw[Qjae] at h2;exact h2
theorem qd9 (l : List Pln) (n : Nat) (hn : n ≤ l.length) (hl : l.length ≤ 1000000000) :
  ∃m r,Z9 ⟨n,bL tP l⟩=⟨1,m,bL tP r⟩/\m<=r.length/\r.take m=dd (l.take n):=by
 unfold Z9 P6
 simp only
 by_cases h2:(n:Int)<2
 ·rw[btD h2];refine⟨n,l,rfl,hn,?_⟩
  have:n=0\/n=1:=by omega
  rcases this with rfl|rfl
  ·rfl
  ·cases l with
   |nil=>rfl
   |cons x l=>rfl
 ·rw[bfD h2];have h1n:1<=n:=by omega
  have hI : ∀ j, j < n → 1 ≤ j → l.take j ++ ddF (gL tP l (j - 1)) ((l.take n).drop j) = dd (l.take n) →
    (eqP (gL tP l j) (gL tP l (j-1))=true->Cmp l n l j (j+1) (dd (l.take n)))/\(eqP (gL tP l j) (gL tP l (j-1))=false->l.take (j+1)++ddF (gL tP l (j+1-1)) ((l.take n).drop (j+1))=dd (l.take n)):=by
   intro j hj hj1 hR;have hcons:(l.take n).drop j=gL tP l j::(l.take n).drop (j+1):=by
    rw[Qjak (by rw[Qjb];omega),List.getElem_take,Ya7 tP (by omega)]
   rw[hcons] at hR;unfold ddF at hR;constructor
   ·intro he;rw[he] at hR;simp only[if_true] at hR;exact⟨rfl,hR,rfl,Qji _⟩
   ·intro he;rw[he] at hR;simp only[Bool.false_eq_true,if_false] at hR;rw[ed6 tP (show j<l.length by omega),Qjai]
    exact hR
  have inner:∀k,k<n->1<=k->Cmp l n l k (k+1) (dd (l.take n))->∃m' cur' k',lp (s9 ⟨n,0+k,n-k⟩) ⟨(k:Int),1,bL tP l⟩=(1,⟨((m':Nat):Int),k',bL tP cur'⟩)/\cur'.length=l.length/\cur'.take m'=dd (l.take n)/\m'<=n:=by
   intro k hk hk1 hc;obtain⟨t,s,e1,rfl,m',cur',k',rfl,e2,e3,e4⟩:=Vd7 l n k hn hl hk k l _ hc;exact⟨m',cur',k',e1,e2,e3,e4⟩
  have key:=S3 (step:=R7 ⟨n,bL tP l⟩) (mk:=λj (_:Unit)=>(⟨(j:Int)⟩:w6)) n (λj _=>1<=j/\j<=n/\l.take j++ddF (gL tP l (j-1)) ((l.take n).drop j)=dd (l.take n))
   (λt s=>(t=1/\∃k:Nat,s=⟨(k:Int)⟩/\k<n/\1<=k/\Cmp l n l k (k+1) (dd (l.take n)))\/(t=2/\l.take n=dd (l.take n))) (by omega) (λj x hj hx=>?_) (λj x hj hx=>?_) 1 () ⟨Qji _,h1n,by
    cases l with
    |nil=>simp only[List.length_nil] at hn;omega
    |cons x l =>
     cases n with
     |zero=>omega
     |succ n=>rfl⟩
  ·obtain⟨t,s,e1,e2⟩:=key;rw[show (⟨1⟩:w6)=⟨((1:Nat):Int)⟩ from rfl,e1]
   rcases e2 with⟨rfl,k,rfl,hk,hk1,hc⟩|⟨rfl,he⟩
   ·obtain⟨m',cur',k',e2,e3,e4,e5⟩:=inner k hk hk1 hc;simp only[Int.toNat_natCast,e2];simp only[Qja,Nat.sub_zero];refine⟨m',cur'.take m'++(List.replicate (n-m') ⟨⟨0,0,0⟩,0⟩++cur'.drop (m'+(n-m'))),?_,?_,?_⟩
    ·rw[Fe4,Fe5,Vd6,Xa2,Xa2];rfl
    ·rw[Qjc,Qjb,e3];omega
    ·rw[Qjr (by rw[Qjb,e3];omega),List.take_take,Nat.min_self,e4]
   ·exact⟨n,l,rfl,hn,he⟩
  ·obtain⟨hj1,hjn,hR⟩:=hx;obtain⟨i1,i2⟩:=hI j hj hj1 hR;have hWj:W ((j:Int)-1)=((j-1:Nat):Int):=by rw[ka3 (by omega) (by omega)];omega
   have hjl:j<l.length:=by omega
   have hjl':j-1<l.length:=by omega
   simp only[R7,O6,Int.toNat_natCast,hWj,ed2 hjl,ed2 hjl',Jc0 hjl,Jc0 hjl',n8 hj (show n<=4611686018427387904 by omega)]
   rw[btD (f9 hj),bt (e8 hj),bt (e8 (show j-1<n by omega)),bt (e8 (show j<n+1 by omega))]
   simp only[g7];rw[show ((gL tP l j).n.x==(gL tP l (j-1)).n.x&&((gL tP l j).n.y==(gL tP l (j-1)).n.y&&((gL tP l j).n.z==(gL tP l (j-1)).n.z&&((gL tP l j).b==(gL tP l (j-1)).b&&true))))=eqP (gL tP l j) (gL tP l (j-1)) from rfl]
   cases he:eqP (gL tP l j) (gL tP l (j-1)) with
   |false=>exact .nx ⟨(),rfl,by omega,by omega,i2 he⟩
   |true =>
    obtain⟨m',cur',k',e2,e3,e4,e5⟩:=inner j hj hj1 (i1 he);rw[e2];simp only[e8 (show m'<n+1 by omega)]
    exact .ex (.inl ⟨rfl,j,rfl,hj,hj1,i1 he⟩)
  ·obtain⟨hj1,hjn,hR⟩:=hx;refine⟨2,?_,.inr ⟨rfl,?_⟩⟩
   ·simp only[R7,O6];rw[bfD (by omega)]
   ·have:j=n:=by omega
    subst this;rw[Qjaa (by rw[Qjb];omega)] at hR
    unfold ddF at hR;rw[Qjae] at hR;exact hR
theorem ff9(l:List Pln)(n:Nat)(hn:n<=l.length):slR tP (bL tP l) 0 n=l.take n:=Nc6 tP (by rw[Qjb];omega) λk hk=>by
 rw[Qja,ea8 tP (by omega)]
 congr 1;simp[gL,Qjw,List.getElem?_take,hk]
theorem gf0(l:List Pln)(n:Nat)(hn:n<=l.length):okS tP (bL tP l) 0 n=true:=jb2 tP (f:=λk=>gL tP l k) λk hk=>by rw[Qja,ea8 tP (by omega)]
noncomputable def lean(c:List Pln):List Pln:=if ful c then dd (Za4 (c.filter (keep (pts c)))) else []
theorem Fe7(p:Pln)(c:List Pln)(hc:c.length<=1000000):Rd (one (r1L tP)) (qb9 (p,c)) (λr=>r=lean (p::c)):=by
 have hl:(p::c).length<=1000000000:=by simp only[List.length_cons];omega
 have hX:=Ud5 (p::c);unfold qb9 lean;simp only[g8,o5,i7,Uf0,Uf1,od3 hl,od4 hl,od1 hl,od2 hl];cases hf:ful (p::c) with
 |false=>exact⟨_,[],rfl,rfl,rfl⟩
 |true =>
  have ec:p5 (λk=>tP.row (gL tP (p::c) k)) (List.range (c.length+1))=bL tP (p::c):=Qb0 tP (p::c)
  have hcl:va4 (p,c)=⟨1,(p::c).length,bL tP (p::c)⟩:=by
   unfold va4 V6;simp only[ec,U9];have z:Nat.beq (p::c).length 0=false:=rfl;have r:Nat.ble ((0+(p::c).length)*32) room=true:=fa4 (by simp only[List.length_cons];omega)
   rw[z,r,Qja];rfl
  obtain⟨m,r,e1,e2,e3,e4⟩:=Jd2 (p::c) (pts (p::c)) hl (by omega)
  have hm:m<=(p::c).length:=by
   have h1:=congrArg List.length e3;have h2:=List.length_filter_le (keep (pts (p::c))) (p::c);rw[Qjb] at h1;omega
  have hs:(Za4 (r.take m)).length=m:=by rw[rc6,Qjb];omega
  have hrows:app (bL tP (Za4 (r.take m))) (j7 (bL tP r) m)=bL tP (Za4 (r.take m)++r.drop m):=by rw[Vd6,Xa2]
  have hok:okL tP (c.length+1) (λk=>tP.row (gL tP (p::c) k))=true:=jb2 tP (f:=λk=>gL tP (p::c) k) λ_ _=>rfl
  simp only[hcl,e1,ff9 r m e2,gf0 r m e2,hrows,hok];obtain⟨m2,r2,k1,k2,k3⟩:=qd9 (Za4 (r.take m)++r.drop m) m (by rw[Qjc,hs];omega) (by rw[Qjc,hs,Qjv,e4];omega)
  rw[k1,U9];have q1:Nat.ble m room=true:=by rw[Nat.ble_eq];unfold room;simp only[List.length_cons] at hm;omega
  have q2:Nat.ble m r.length=true:=by rw[Nat.ble_eq];exact e2
  rw[q1,q2];have hfin:r2.take m2=dd (Za4 ((p::c).filter (keep (pts (p::c))))):=by
   rw[k3,Qjr (by rw[hs];omega),Qjan (by rw[hs];omega),e3]
  exact ff3 k2 rfl hfin
theorem Pf0(p:Pln)(c:List Pln)(hc:c.length<=1000000):Wc6 (p,c)=lean (p::c):=(Fe7 p c hc).p
theorem Pf1(p:Pln)(c:List Pln)(hc:c.length<=1000000):Wc7 (p,c)=true:=(Fe7 p c hc).g
end Go.Ev.Ce
namespace Go.Ev.Ce
open Go Go.Ev Go.Ev.L Go.Proofs Go.Sort
theorem rd0(l:List Pln):List.Perm (Za4 l) l:=List.mergeSort_perm l _
theorem Oe6(x y z:Pln)(h1:(!ltOf na1 y x)=true)(h2:(!ltOf na1 z y)=true):(!ltOf na1 z x)=true:=by
 simp only[Bool.not_eq_true',lb0,decide_eq_false_iff_not] at *
 unfold LtP at *
 omega
theorem Oe7(x y:Pln):((!ltOf na1 y x)||!ltOf na1 x y)=true:=by
 simp only[Bool.or_eq_true,Bool.not_eq_true',lb0,decide_eq_false_iff_not];unfold LtP;omega
theorem Vd8(l:List Pln):(Za4 l).Pairwise λx y=>(!ltOf na1 y x)=true:=List.pairwise_mergeSort Oe6 Oe7 l
instance:DecidableEq Pln:=λx y=>decidable_of_iff _ (Kb0 x y)
def PC:List Pt:=[⟨0,0,0,1⟩,⟨0,0,1,4⟩,⟨0,1,0,3⟩,⟨1,0,0,2⟩]
theorem xe6:ful []=true:=by kernel_rfl
end Go.Ev.Ce
namespace Go.Ev.Ce
open Go Go.Ev Go.Ev.L Go.Proofs
set_option maxRecDepth 100000
noncomputable def rd1:List (Nat×Sum):=[(182,Ob0)]
theorem le8:i9 prog G rd1:=⟨lc6,trivial⟩
structure rb0 where
 c9:List Pln
 (f0 b9 f7 j6:Int)
structure va5 where
 is5:Int
noncomputable def Jc5(p:rb0)(s:va5):St:=⟨eL tP p.c9::.unk::.unk::.ptr 0 0 0 0::.unk::i s.is5::ra 43 [],[⟨0,4,[[i p.f0,i p.b9,i p.f7,i p.j6]],true,false,0⟩]⟩
noncomputable def Ua6{α:Type}(k:va5->α)(e:Nat->α)(z:α)(p:rb0)(s:va5):α:=let t1:=(fa9 (gL tP p.c9 s.is5.toNat) (⟨(⟨p.f0,p.b9,p.f7⟩:V3),p.j6⟩:Pln));(sl (decide (s.is5<(↑(List.length p.c9):Int))) (sl (inB s.is5 (List.length p.c9)) (sl (mb9 (gL tP p.c9 s.is5.toNat) (⟨(⟨p.f0,p.b9,p.f7⟩:V3),p.j6⟩:Pln)) (sl (decide (t1<0)) (k ⟨W (s.is5+1)⟩) (e 1)) z) z) (e 2))
noncomputable def Pa0(p:rb0)(s:va5):Stp va5:=Ua6 .next .exit .fail p s
noncomputable def mc8:Lo rb0 va5:=⟨En rd1,0,Ff6,[1,1,0,4,4],[0,3,5],.p,[⟨sLq tP::sUq::sUq::sPq 0::sUq::sIq::ru2 43 [],[⟨0,4,true,some [kLq 4]⟩],λa H=>(⟨aLq tP a 0,hIq H 0 0 0,hIq H 0 0 1,hIq H 0 0 2,hIq H 0 0 3⟩,⟨aIq a 5⟩)⟩],Pa0,[(some 0,λp s=>let t1:=(fa9 (gL tP p.c9 s.is5.toNat) (⟨(⟨p.f0,p.b9,p.f7⟩:V3),p.j6⟩:Pln));⟨eL tP p.c9::.unk::.unk::.ptr 0 0 0 0::.unk::i s.is5::.unk::i s.is5::eL tP p.c9::i (↑(List.length p.c9):Int)::b (decide (s.is5<(↑(List.length p.c9):Int)))::b true::eL tP p.c9::i s.is5::.tptr [i (gL tP p.c9 s.is5.toNat).n.x,i (gL tP p.c9 s.is5.toNat).n.y,i (gL tP p.c9 s.is5.toNat).n.z,i (gL tP p.c9 s.is5.toNat).b]::.agg [i (gL tP p.c9 s.is5.toNat).n.x,i (gL tP p.c9 s.is5.toNat).n.y,i (gL tP p.c9 s.is5.toNat).n.z,i (gL tP p.c9 s.is5.toNat).b]::.agg [i p.f0,i p.b9,i p.f7,i p.j6]::i t1::b (decide (t1<0))::b (decide (t1<0))::ra 29 [],[⟨0,4,[[i p.f0,i p.b9,i p.f7,i p.j6]],true,false,0⟩]⟩),(some 0,λp s=>upq (Jc5 p s) [(7,i s.is5),(8,eL tP p.c9),(9,i (↑(List.length p.c9):Int)),(10,b (decide (s.is5<(↑(List.length p.c9):Int)))),(11,b false),(12,u),(13,u),(14,u),(15,u),(16,u),(17,u),(18,u),(19,b false)])],Jc5⟩
theorem Vd9:mc8.Ok:=Lo.ok [] (by kernel_rfl) .nil rfl (.cons (λa H=>by kernel_rfl) .nil) λp s=>(.of @Ua6 (λF _ _ _ _ _=>by unfold Ua6;(repeat' apply l6 (f:=F))<;>rfl) (by kernel_rfl))
noncomputable def Sb5(x:List Pln)(y:Pln):Option (b7×List b8):=let t1:=(lp (Pa0 (⟨rt tP x,y.n.x,y.n.y,y.n.z,y.b⟩:rb0)) (⟨0⟩:va5));let a0:=(p5 (λk=>(λk=>(tP).row (gL tP (rt tP x) k)) (0+k)) (List.range (t1.2.is5.toNat-0)));let a1:=(p5 (λk=>(λk=>(tP).row (gL tP (rt tP x) k)) (t1.2.is5.toNat+k)) (List.range ((List.length (rt tP x))-t1.2.is5.toNat)));let a2:=(inB t1.2.is5 ((List.length (rt tP x))+1));let a3:=(Nat.beq (0+(len a0)) (len (app [] a0))&&Nat.ble (((0+(len a0))+1)*32) room);let a4:=(((0+(len a0))+1)+(len a1));let a5:=(gL tP (rt tP x) t1.2.is5.toNat);let a6:=(Nat.beq 1 1&&Nat.ble ((1+(len a1))*32) room);let a7:=(Nat.beq 0 0&&Nat.ble ((0+(len a0))*32) room);let w0:Option (b7×List b8):=(sl a2 (sl (Nat.beq (len a0) 0) (sl a2 (sl (Nat.beq (len a1) 0) (some (.sl 0 0 1 0,[⟨73,4,[[i y.n.x,i y.n.y,i y.n.z,i y.b]],true,false,0⟩])) (sl a6 (some (.sl 0 0 (1+(len a1)) 0,[⟨73,4,app [[i y.n.x,i y.n.y,i y.n.z,i y.b]] a1,true,false,0⟩])) none)) none) (sl a7 (sl a3 (sl a2 (sl (Nat.beq (len a1) 0) (some (.sl 0 0 ((0+(len a0))+1) 0,[⟨73,4,app (app [] a0) [[i y.n.x,i y.n.y,i y.n.z,i y.b]],true,false,0⟩])) (sl (Nat.beq ((0+(len a0))+1) (len (app (app [] a0) [[i y.n.x,i y.n.y,i y.n.z,i y.b]]))&&Nat.ble (a4*32) room) (some (.sl 0 0 a4 0,[⟨73,4,app (app (app [] a0) [[i y.n.x,i y.n.y,i y.n.z,i y.b]]) a1,true,false,0⟩])) none)) none) none) none)) none);let w1:Option (b7×List b8):=(sl (decide (t1.2.is5<(↑(List.length (rt tP x)):Int))) (sl (inB t1.2.is5 (List.length (rt tP x))) (sl ((a5.n.x==y.n.x)&&((a5.n.y==y.n.y)&&((a5.n.z==y.n.z)&&((a5.b==y.b)&&true)))) (some (eL tP (rt tP x),[])) w0) none) w0);(sl ((cnE tP x)&&true) (sl (Nat.beq t1.1 1) w1 (sl (Nat.beq t1.1 2) w1 none)) none)
noncomputable def zb3(x:List Pln)(y:Pln):List Pln:=J8 (one (r1L tP)) (Sb5 x y)
noncomputable def zb4(x:List Pln)(y:Pln):Bool:=okO (one (r1L tP)) (Sb5 x y)
noncomputable def Jd3:Sum:=oa5 (O3 tP) (ba6 tP) (λx y=>.guard (zb4 x y) (.ret ((one (r1L tP)).enc (zb3 x y),[])))
theorem xe7:g9 prog G 159 Jd3:=hb8 (bd kg7 le8) (one (r1L tP)) (o:=Sb5) λx y=>ta7 (.s .p (.s .p (.s (.b (.u mc8.ls)) .p))) [mc8.pr] (by kernel_rfl) (.cons Vd9 .nil) (by kernel_rfl)
end Go.Ev.Ce
namespace Go.Ev.L
open Go Go.Ev
noncomputable def Pf2:Cod Unit where
 enc _:=.v (.slice none 0 0)
 dec x:=match x with
  |.v (.slice none 0 0)=>some ()
  |_=>none
 grd _:=true
 ok x a hx _:=by
  split at hx
  ·exact .refl _
  ·cases hx
noncomputable def cE0:Cod (Addr×Nat) where
 enc z:=.v (.slice (some z.1) 0 z.2)
 dec x:=match x with
  |.v (.slice (some a) 0 c)=>some (a,c)
  |_=>none
 grd _:=true
 ok x a hx _:=by
  split at hx
  ·cases hx;exact .refl _
  ·cases hx
section
variable{α:Type}{t:Ty α}{P:Program}{G:Nat->List Value}{f:FuncId}
theorem Wd0{β:Type}{c:Cod β}{k k':β->DT (b7×List b8)}(h:g9 P G f (X6 c k))(hk:∀a r,(k' a).run=some r->(k a).run=some r):g9 P G f (X6 c k'):=h.le λargs blks r hr=>by
 unfold X6 at hr ⊢
 split at hr
 ·obtain⟨a,h1,hr⟩:=H5 hr;obtain⟨g,hr⟩:=DT.run_guard_some hr;simp only[h1,onO,g];exact hk a r hr
 ·cases hr
theorem Pf3{k:List α->DT (b7×List b8)}(hA:g9 P G f (X6 (Xe3 t) λz=>k (z.1::z.2)))(hN:g9 P G f (X6 Pf2 λ_=>k []))(hE:g9 P G f (X6 cE0 λ_=>k [])):g9 P G f (X6 (O3 t) k):=by
 intro args blks r out he W ρ F w args' hH hlen hargs hG;unfold X6 at he
 split at he
 ·rename_i x;obtain⟨a,h1,he⟩:=H5 he;obtain⟨g1,hk⟩:=DT.run_guard_some he;have nilCase:∀v',args'[0]?=some v'->v'=.slice none 0 0->a=[]->Ab1 P f/\Calls P f args'.toArray w λe w'=>∃r',e=.returned r'/\R5 W ρ [] F w r out r' w':=λv' hv e ha=>by
   subst ha;refine hN [.v (.slice none 0 0)] [] r out ?_ W ρ F w args' hH hlen (λi x' y' hx hy=>?_) hG
   ·exact hk
   ·match i with
    |0=>cases hx;rw[hv] at hy;cases hy;rw[e];exact .val (.cell (.v _))
    |i+1=>cases hx
  have emptyCase:∀v' ad c,args'[0]?=some v'->v'=.slice (some ad) 0 c->a=[]->Ab1 P f/\Calls P f args'.toArray w λe w'=>∃r',e=.returned r'/\R5 W ρ [] F w r out r' w':=λv' ad c hv e ha=>by
   subst ha;refine hE [.v (.slice (some ad) 0 c)] [] r out ?_ W ρ F w args' hH hlen (λi x' y' hx hy=>?_) hG
   ·exact hk
   ·match i with
    |0=>cases hx;rw[hv] at hy;cases hy;rw[e];exact .val (.cell (.v _))
    |i+1=>cases hx
  obtain⟨v',hv⟩:∃v',args'[0]?=some v':=by
   cases args' with
   |nil=>simp at hlen
   |cons v' r'=>exact⟨v',rfl⟩
  cases x with
  |tree e n get =>
   have hb:Nat.beq e t.es=true/\a=lsL t n get:=by
    have h1:(Bool.rec none (some (lsL t n get)) (Nat.beq e t.es):Option (List α))=some a:=h1;cases hb:Nat.beq e t.es with
    |false=>rw[hb] at h1;cases h1
    |true =>
     rw[hb] at h1;have h1:some (lsL t n get)=some a:=h1;injection h1 with h1;exact⟨rfl,h1.symm⟩
   cases n with
   |zero =>
    have ha:a=[]:=hb.2;have hm:=Da4 (hargs 0 _ v' rfl hv);cases hm with
    |tree _ _ _ ad cap cs hs hcap hes hF hw hr=>exact emptyCase _ ad cap hv rfl ha
    |nil=>exact nilCase _ hv rfl ha
   |succ m =>
    have ha:a=hC t get::tC t m get:=hb.2.trans (ce9 t m get);subst ha;refine hA [.tree e (m+1) get] [] r out ?_ W ρ F w args' hH hlen hargs hG;have hc:(Xe3 t).dec (.tree e (m+1) get)=some (hC t get,tC t m get):=by
     show (Bool.rec none (some (hC t get,tC t m get)) (Nat.beq e t.es):Option (α×List α))=_;rw[hb.1]
    have hg:(Xe3 t).grd (.tree e (m+1) get)=true:=g1;simp only[X6,hc,onO,hg];exact hk
  |v q =>
   have hq:=ka2 (hargs 0 _ v' rfl hv);unfold O3 at h1
   simp only at h1
   split at h1
   ·rename_i heq;cases heq
   ·rename_i heq;injection heq with heq;injection h1 with h1;exact nilCase v' hv (hq.trans heq) h1.symm
   ·rename_i ad c heq;injection heq with heq;injection h1 with h1;exact emptyCase v' _ _ hv (hq.trans heq) h1.symm
   ·cases h1
  |_=>cases h1
 ·cases he
end
end Go.Ev.L
namespace Go.Ev.Ce
open Go Go.Ev Go.Ev.L Go.Proofs
set_option maxRecDepth 100000
noncomputable def Eb4:List (Nat×Sum):=[]
theorem sc9:i9 prog G Eb4:=trivial
@[reducible] noncomputable def Kb1:Sum:=Pb4 (En Eb4) Gf7
theorem Ac7:g9 prog G 208 Kb1:=bd ng2 sc9
noncomputable def Eb5:List (Nat×Sum):=[]
theorem tc0:i9 prog G Eb5:=trivial
@[reducible] noncomputable def Kb2:Sum:=Pb4 (En Eb5) Gf6
theorem Ac8:g9 prog G 207 Kb2:=bd ng1 tc0
noncomputable def Sb6:List (Nat×Sum):=[(208,Kb1),(207,Kb2)]
theorem Jc6:i9 prog G Sb6:=⟨Ac7,Ac8,trivial⟩
@[reducible] noncomputable def dc1:Sum:=Pb4 (En Sb6) Gf0
theorem Rc5:g9 prog G 180 dc1:=bd mg0 Jc6
structure G0 where
noncomputable def ia6:List (Nat×Sum):=[]
theorem Ma3:i9 prog G ia6:=trivial
structure w7 where
structure o4 where
noncomputable def fa3(p:w7)(s:o4):St:=⟨.v (.slice none 0 0)::i 0::i 0::.fn 122 []::ra 4 (i 1::ra 44 []),[]⟩
noncomputable def M4{α:Type}(k:o4->α)(e:Nat->α)(z:α)(p:w7)(s:o4):α:=(e 1)
noncomputable def N7(p:w7)(s:o4):Stp o4:=M4 .next .exit .fail p s
noncomputable def O7:Lo w7 o4:=⟨En ia6,0,Gf5,[1,4,4],[0,1,2,3,8],.p,[⟨.s (.o .nil)::.s (.o (.lit .i64 0))::.s (.o (.lit .i64 0))::.s (.o (.fn 122))::ru2 4 (.s (.o (.lit .i64 1))::ru2 44 []),[],λa H=>(⟨⟩,⟨⟩)⟩],N7,[(some 0,λp s=>upq (fa3 p s) [(12,i 1),(13,i 0),(14,b false)])],fa3⟩
theorem Ja1:O7.Ok:=Lo.ok [] (by kernel_rfl) .nil rfl (.cons (λa H=>by kernel_rfl) .nil) λp s=>(.of @M4 (λF _ _ _ _ _=>by unfold M4;(repeat' apply l6 (f:=F))<;>rfl) (by kernel_rfl))
structure G1 where
 alt:Nat
noncomputable def r8{α:Type}(kk:G1->α)(x:G0):α:=let t1:=(lp (N7 (⟨⟩:w7)) (⟨⟩:o4));(sl (Nat.beq t1.1 1) (kk ⟨1⟩) (kk ⟨0⟩))
noncomputable def G2(x:G0):G1:=r8 (λr=>r) x
noncomputable def P7(x:G0)(r:G1):DT (b7×List b8):=(.ite (Nat.beq r.alt 1) (.ret (.tup [],[])) .fail)
theorem Ra7{α β:Type}(F:α->β)(kk:G1->α)(x:G0):F (r8 kk x)=r8 (λr=>F (kk r)) x:=by unfold r8;(repeat' apply l6 (f:=F))<;>rfl
noncomputable def ka6:Sum:=bb1 ⟨[.s (.o .nil),.s (.o (.lit .i64 0)),.s (.o (.lit .i64 0)),.s (.o (.fn 122))],[],λa H=>(⟨⟩,())⟩ (λx=>P7 x (G2 x))
theorem Pa1:g9 prog G 199 ka6:=N9 (enc:=λx=>⟨[.v (.slice none 0 0),i 0,i 0,.fn 122 []],[]⟩) (λa H=>by kernel_rfl) (bd ng0 Ma3) λx=>ta7 (.s .p (.b (.u O7.ls))) [O7.pr] (by kernel_rfl) (.cons Ja1 .nil) (Qjk (b:=r8 (λr=>(P7 x r).run) x) (by kernel_rfl) (Ra7 (λr=>(P7 x r).run) (λr=>r) x).symm)
structure P8 where
noncomputable def xa6:List (Nat×Sum):=[(199,ka6)]
theorem eb4:i9 prog G xa6:=⟨Pa1,trivial⟩
structure E3 where
structure r6 where
noncomputable def Za8(p:E3)(s:r6):St:=⟨.v (.slice none 0 0)::i 0::i 0::i 0::.fn 122 []::ra 5 (b true::b true::ra 136 []),[]⟩
noncomputable def J4{α:Type}(k:r6->α)(e:Nat->α)(z:α)(p:E3)(s:r6):α:=let t1:=(G2 ⟨⟩);(sl (Nat.beq t1.alt 1) (e 1) z)
noncomputable def L4(p:E3)(s:r6):Stp r6:=J4 .next .exit .fail p s
noncomputable def aa0:Lo E3 r6:=⟨En xa6,0,Ff9,[1,1,4,4],[0,1,2,3,4,10,11],.p,[⟨.s (.o .nil)::.s (.o (.lit .i64 0))::.s (.o (.lit .i64 0))::.s (.o (.lit .i64 0))::.s (.o (.fn 122))::ru2 5 (.s (.o (.blit true))::.s (.o (.blit true))::ru2 136 []),[],λa H=>(⟨⟩,⟨⟩)⟩],L4,[(none,λp s=>⟨[.tup []],[]⟩)],Za8⟩
theorem Za9:aa0.Ok:=Lo.ok [] (by kernel_rfl) .nil rfl (.cons (λa H=>by kernel_rfl) .nil) λp s=>(.of @J4 (λF _ _ _ _ _=>by unfold J4;(repeat' apply l6 (f:=F))<;>rfl) (by kernel_rfl))
structure P9 where
 alt:Nat
noncomputable def A8{α:Type}(kk:P9->α)(x:P8):α:=let t1:=(lp (L4 (⟨⟩:E3)) (⟨⟩:r6));(sl (Nat.beq t1.1 1) (kk ⟨1⟩) (kk ⟨0⟩))
noncomputable def Q0(x:P8):P9:=A8 (λr=>r) x
noncomputable def ba7(x:P8)(r:P9):DT (b7×List b8):=(.ite (Nat.beq r.alt 1) (.ret (.tup [],[])) .fail)
theorem lb1{α β:Type}(F:α->β)(kk:P9->α)(x:P8):F (A8 kk x)=A8 (λr=>F (kk r)) x:=by unfold A8;(repeat' apply l6 (f:=F))<;>rfl
noncomputable def Aa7:Sum:=bb1 ⟨[.s (.o .nil),.s (.o (.lit .i64 0)),.s (.o (.lit .i64 0)),.s (.o (.lit .i64 0)),.s (.o (.fn 122))],[],λa H=>(⟨⟩,())⟩ (λx=>ba7 x (Q0 x))
theorem hb9:g9 prog G 179 Aa7:=N9 (enc:=λx=>⟨[.v (.slice none 0 0),i 0,i 0,i 0,.fn 122 []],[]⟩) (λa H=>by kernel_rfl) (bd lg9 eb4) λx=>ta7 (.s .p (.s .p (.b (.u aa0.ls)))) [aa0.pr] (by kernel_rfl) (.cons Za9 .nil) (Qjk (b:=A8 (λr=>(ba7 x r).run) x) (by kernel_rfl) (lb1 (λr=>(ba7 x r).run) (λr=>r) x).symm)
structure ga3 where
noncomputable def Hb5:List (Nat×Sum):=[(179,Aa7),(180,dc1)]
theorem Eb6:i9 prog G Hb5:=⟨hb9,Rc5,trivial⟩
structure ga4 where
 alt:Nat
noncomputable def L9{α:Type}(kk:ga4->α)(x:ga3):α:=let t1:=(Q0 ⟨⟩);(sl (Nat.beq t1.alt 1) (kk ⟨1⟩) (kk ⟨0⟩))
noncomputable def ga5(x:ga3):ga4:=L9 (λr=>r) x
noncomputable def sa6(x:ga3)(r:ga4):DT (b7×List b8):=(.ite (Nat.beq r.alt 1) (.ret (.tup [],[])) .fail)
theorem Pb0{α β:Type}(F:α->β)(kk:ga4->α)(x:ga3):F (L9 kk x)=L9 (λr=>F (kk r)) x:=by unfold L9;(repeat' apply l6 (f:=F))<;>rfl
noncomputable def Ua7:Sum:=bb1 ⟨[.s (.o .nil),.s (.o (.fn 122))],[],λa H=>(⟨⟩,())⟩ (λx=>sa6 x (ga5 x))
theorem Hb6:g9 prog G 121 Ua7:=N9 (enc:=λx=>⟨[.v (.slice none 0 0),.fn 122 []],[]⟩) (λa H=>by kernel_rfl) (bd ig7 Eb6) λx=>v7 (Qjk (b:=L9 (λr=>(sa6 x r).run) x) (by kernel_rfl) (Pb0 (λr=>(sa6 x r).run) (λr=>r) x).symm)
structure da2 where
 i6:List Pt
noncomputable def Ma4:List (Nat×Sum):=[]
theorem xb3:i9 prog G Ma4:=trivial
structure N4 where
 i6:List Pt
structure A2 where
noncomputable def Fa7(p:N4)(s:A2):St:=⟨.v (.slice none 0 0)::.fn 152 [.ptr 0 0 0 0]::ra 5 (i 0::i 0::ra 10 []),[⟨0,1,[[eL tX p.i6]],true,false,0⟩]⟩
noncomputable def ia0{α:Type}(k:A2->α)(e:Nat->α)(z:α)(p:N4)(s:A2):α:=(e 1)
noncomputable def ja8(p:N4)(s:A2):Stp A2:=ia0 .next .exit .fail p s
noncomputable def na2:Lo N4 A2:=⟨En Ma4,1,fe7,[1,0,1,4,4],[0,1,7,8],.p,[⟨.s (.o .nil)::.fn 152 [.o (.ptr 0 0 0 0)]::ru2 5 (.s (.o (.lit .i64 0))::.s (.o (.lit .i64 0))::ru2 10 []),[⟨0,1,true,some [[.c 4 (nL tX)]]⟩],λa H=>(⟨hLq tX H 0 0 0⟩,⟨⟩)⟩],ja8,[(some 0,λp s=>upq (Fa7 p s) [(9,b false)])],Fa7⟩
theorem ub2:na2.Ok:=Lo.ok [] (by kernel_rfl) .nil rfl (.cons (λa H=>by kernel_rfl) .nil) λp s=>(.of @ia0 (λF _ _ _ _ _=>by unfold ia0;(repeat' apply l6 (f:=F))<;>rfl) (by kernel_rfl))
structure da3 where
 alt:Nat
 i6:List Pt
noncomputable def J3{α:Type}(kk:da3->α)(x:da2):α:=let t1:=(lp (ja8 (⟨rt tX x.i6⟩:N4)) (⟨⟩:A2));(sl ((cnE tX x.i6)&&true) (sl (Nat.beq t1.1 1) (kk ⟨1,rt tX x.i6⟩) (kk ⟨0,[]⟩)) (kk ⟨0,[]⟩))
noncomputable def sa7(x:da2):da3:=J3 (λr=>r) x
noncomputable def qa4(x:da2)(r:da3):DT (b7×List b8):=(.ite (Nat.beq r.alt 1) (.ret (i (-1),[⟨0,1,[[eL tX r.i6]],true,false,0⟩])) .fail)
theorem Hb7{α β:Type}(F:α->β)(kk:da3->α)(x:da2):F (J3 kk x)=J3 (λr=>F (kk r)) x:=by unfold J3;(repeat' apply l6 (f:=F))<;>rfl
noncomputable def Ra3:Sum:=bb1 ⟨[.s (.o .nil),.fn 152 [.o (.ptr 0 0 0 0)]],[⟨0,1,true,some [[.c 4 (nL tX)]]⟩],λa H=>(⟨hLq tX H 0 0 0⟩,())⟩ (λx=>qa4 x (sa7 x))
theorem Eb7:g9 prog G 139 Ra3:=N9 (enc:=λx=>⟨[.v (.slice none 0 0),.fn 152 [.ptr 0 0 0 0]],[⟨0,1,[[eL tX x.i6]],true,false,0⟩]⟩) (λa H=>by kernel_rfl) (bd wf0 xb3) λx=>ta7 (.s .p (.s (.s .p (.b (.u na2.ls))) .p)) [na2.pr] (by kernel_rfl) (.cons ub2 .nil) (Qjk (b:=J3 (λr=>(qa4 x r).run) x) (by kernel_rfl) (Hb7 (λr=>(qa4 x r).run) (λr=>r) x).symm)
structure aa1 where
 i6:List Pt
noncomputable def xb4:List (Nat×Sum):=[(139,Ra3)]
theorem ub3:i9 prog G xb4:=⟨Eb7,trivial⟩
structure aa2 where
 alt:Nat
 i6:List Pt
noncomputable def G4{α:Type}(kk:aa2->α)(x:aa1):α:=let t1:=(sa7 ⟨rt tX x.i6⟩);(sl ((cnE tX x.i6)&&true) (sl (Nat.beq t1.alt 1) (kk ⟨1,t1.i6⟩) (kk ⟨0,[]⟩)) (kk ⟨0,[]⟩))
noncomputable def aa3(x:aa1):aa2:=G4 (λr=>r) x
noncomputable def na3(x:aa1)(r:aa2):DT (b7×List b8):=(.ite (Nat.beq r.alt 1) (.ret (.v (.slice none 0 0),[⟨0,1,[[eL tX r.i6]],true,false,0⟩])) .fail)
theorem Eb8{α β:Type}(F:α->β)(kk:aa2->α)(x:aa1):F (G4 kk x)=G4 (λr=>F (kk r)) x:=by unfold G4;(repeat' apply l6 (f:=F))<;>rfl
noncomputable def Ma5:Sum:=bb1 ⟨[.s (.o .nil),.fn 152 [.o (.ptr 0 0 0 0)]],[⟨0,1,true,some [[.c 4 (nL tX)]]⟩],λa H=>(⟨hLq tX H 0 0 0⟩,())⟩ (λx=>na3 x (aa3 x))
theorem xb5:g9 prog G 150 Ma5:=N9 (enc:=λx=>⟨[.v (.slice none 0 0),.fn 152 [.ptr 0 0 0 0]],[⟨0,1,[[eL tX x.i6]],true,false,0⟩]⟩) (λa H=>by kernel_rfl) (bd Zf9 ub3) λx=>ta7 .p [] (by kernel_rfl) .nil (Qjk (b:=G4 (λr=>(na3 x r).run) x) (by kernel_rfl) (Eb8 (λr=>(na3 x r).run) (λr=>r) x).symm)
structure ia7 where
noncomputable def Pb1:List (Nat×Sum):=[]
theorem Hb8:i9 prog G Pb1:=trivial
structure ia8 where
noncomputable def V7{α:Type}(kk:ia8->α)(x:ia7):α:=(kk ⟨⟩)
noncomputable def Sb7(x:ia7):ia8:=V7 (λr=>r) x
noncomputable def xa5(x:ia7)(r:ia8):DT (b7×List b8):=.ret (.v (.slice none 0 0),[])
theorem Sb8{α β:Type}(F:α->β)(kk:ia8->α)(x:ia7):F (V7 kk x)=V7 (λr=>F (kk r)) x:=by unfold V7;(repeat' apply l6 (f:=F))<;>rfl
noncomputable def Za5:Sum:=bb1 ⟨[.s (.o .nil)],[],λa H=>(⟨⟩,())⟩ (λx=>xa5 x (Sb7 x))
theorem Pb2:g9 prog G 154 Za5:=N9 (enc:=λx=>⟨[.v (.slice none 0 0)],[]⟩) (λa H=>by kernel_rfl) (bd ag0 Hb8) λx=>ta7 .p [] (by kernel_rfl) .nil (Qjk (b:=V7 (λr=>(xa5 x r).run) x) (by kernel_rfl) (Sb8 (λr=>(xa5 x r).run) (λr=>r) x).symm)
noncomputable def Zb0:List (Nat×Sum):=[]
theorem Sb9:i9 prog G Zb0:=trivial
structure ra8 where
noncomputable def da9{α:Type}(kk:ra8->α)(x:Unit):α:=(kk ⟨⟩)
noncomputable def ec5(x:Unit):ra8:=da9 (λr=>r) x
noncomputable def Da1(r:ra8):DT (b7×List b8):=.ret (.v (.slice none 0 0),[])
theorem ec6{α β:Type}(F:α->β)(kk:ra8->α)(x:Unit):F (da9 kk x)=da9 (λr=>F (kk r)) x:=by unfold da9;(repeat' apply l6 (f:=F))<;>rfl
noncomputable def ib3:Sum:=X6 Pf2 (λx=>Da1 (ec5 x))
theorem Zb1:g9 prog G 151 ib3:=Ib6 (bd Nf0 Sb9) λx=>v7 (Qjk (b:=da9 (λr=>(Da1 r).run) x) (by kernel_rfl) (ec6 (λr=>(Da1 r).run) (λr=>r) x).symm)
noncomputable def Bd6:List (Nat×Sum):=[(55,Za1),(113,mb6),(151,ib3),(150,Ma5),(121,Ua7),(154,Za5)]
theorem rd2:i9 prog G Bd6:=⟨db4,Db0,Zb1,xb5,Hb6,Pb2,trivial⟩
noncomputable def eb5(x:Unit):Option (b7×List b8):=let t1:=(Ba8 []);let t2:=(Ga4 []);let t4:=(aa3 ⟨rt tX t2⟩);let t5:=(ga5 ⟨⟩);(sl (Ba9 []) (sl (!t1) (some (.v (.slice none 0 0),[])) (sl (Ga5 []) (sl ((cnE tX t2)&&true) (sl (Nat.beq t4.alt 1) (sl (Nat.beq t5.alt 1) (some (.v (.slice none 0 0),[])) none) none) none) none)) none)
noncomputable def Zb2(x:Unit):List Pln:=J8 (one (r1L tP)) (eb5 x)
noncomputable def Zb3(x:Unit):Bool:=okO (one (r1L tP)) (eb5 x)
noncomputable def Wd1:Sum:=X6 Pf2 (λx=>.guard (Zb3 x) (.ret ((one (r1L tP)).enc (Zb2 x),[])))
theorem Bd7:g9 prog G 98 Wd1:=Ia9 (bd b98 rd2) (one (r1L tP)) (o:=eb5) λx=>v7 (by kernel_rfl)
noncomputable def Zb4:List (Nat×Sum):=[]
theorem Tb0:i9 prog G Zb4:=trivial
structure ra9 where
noncomputable def ea0{α:Type}(kk:ra9->α)(x:Addr×Nat):α:=(kk ⟨⟩)
noncomputable def ec7(x:Addr×Nat):ra9:=ea0 (λr=>r) x
noncomputable def Da2(r:ra9):DT (b7×List b8):=.ret (.sl 0 0 0 0,[⟨73,4,[],true,false,0⟩])
theorem ec8{α β:Type}(F:α->β)(kk:ra9->α)(x:Addr×Nat):F (ea0 kk x)=ea0 (λr=>F (kk r)) x:=by unfold ea0;(repeat' apply l6 (f:=F))<;>rfl
noncomputable def ib4:Sum:=X6 cE0 (λx=>Da2 (ec7 x))
theorem Zb5:g9 prog G 151 ib4:=Ib6 (bd Nf0 Tb0) λx=>v7 (Qjk (b:=ea0 (λr=>(Da2 r).run) x) (by kernel_rfl) (ec8 (λr=>(Da2 r).run) (λr=>r) x).symm)
noncomputable def Bd8:List (Nat×Sum):=[(55,Za1),(113,mb6),(151,ib4),(150,sa5),(121,Aa6),(154,Da0)]
theorem rd3:i9 prog G Bd8:=⟨db4,Db0,Zb5,Ma1,Ua5,Za3,trivial⟩
noncomputable def eb6(x:Addr×Nat):Option (b7×List b8):=let t1:=(Ba8 []);let t2:=(Ga4 []);let t4:=(J2 ⟨0,[],rt tX t2⟩);let t5:=(Z9 ⟨t4.ns0,app (bL tP (Za4 (slR tP t4.eh0 0 t4.ns0))) (j7 t4.eh0 t4.ns0)⟩);(sl (Ba9 []) (sl (!t1) (some (.v (.slice none 0 0),[])) (sl (Ga5 []) (sl ((cnE tX t2)&&true) (sl (Nat.beq t4.alt 1) (sl (Bool.and (Nat.ble t4.ns0 room) (Bool.and (Nat.ble t4.ns0 (len t4.eh0)) (okS tP t4.eh0 0 t4.ns0))) (sl (Nat.beq t5.alt 1) (some (.sl 0 0 t5.ns0 0,[⟨73,4,t5.eh0,true,false,0⟩])) none) none) none) none) none)) none)
noncomputable def Jc7(x:Addr×Nat):List Pln:=J8 (one (r1L tP)) (eb6 x)
noncomputable def Jc8(x:Addr×Nat):Bool:=okO (one (r1L tP)) (eb6 x)
noncomputable def Wd2:Sum:=X6 cE0 (λx=>.guard (Jc8 x) (.ret ((one (r1L tP)).enc (Jc7 x),[])))
theorem Bd9:g9 prog G 98 Wd2:=Ia9 (bd b98 rd3) (one (r1L tP)) (o:=eb6) λx=>v7 (by kernel_rfl)
noncomputable def vc6:List (Nat×Sum):=[(68,ta1),(69,rc5)]
theorem rd4:i9 prog G vc6:=⟨Aa0,Ac0,trivial⟩
structure ia1 where
 is1:Int
structure y9 where
 ph:Nat
 is7:Int
 i8:List Int
 b9:Int
 ns6:Nat
 eh1:List (List b7)
noncomputable def Tb1(p:ia1)(s:y9):St:=⟨.unk::i p.is1::ra 3 (.ptr 0 0 0 0::.v (.slice none 0 0)::i s.is7::ra 19 []),[⟨0,2,[[eL tI s.i8,i s.b9]],true,false,0⟩]⟩
noncomputable def Tb2(p:ia1)(s:y9):St:=⟨.unk::i p.is1::ra 3 (.ptr 0 0 0 0::.sl 1 0 s.ns6 0::i s.is7::ra 19 []),[⟨0,2,[[eL tI s.i8,i s.b9]],true,false,0⟩,⟨27,3,s.eh1,true,false,0⟩]⟩
noncomputable def ad8(p:ia1)(s:y9):St:=(sel (Nat.beq s.ph 1) (Tb2 p s) (Tb1 p s))
noncomputable def Aa8{α:Type}(k:y9->α)(e:Nat->α)(z:α)(p:ia1)(s:y9):α:=let t1:=(n9 ⟨4,rt tI s.i8,s.b9⟩);let t2:=(Oa6 ⟨toI (hdA (j7 (l9 [[i 8],[i 8],[i 3],[i 24]] (0+t1.is0.toNat)) 0)),rt tI (rt tI s.i8),t1.b9⟩);(sl (decide (s.is7<p.is1)) (sl ((cnE tI s.i8)&&true) (sl (Nat.beq t1.alt 1) (sl (inB t1.is0 4) (sl (((Nat.blt (0+t1.is0.toNat) (len [[i 8],[i 8],[i 3],[i 24]]))&&(Nat.ble (0+1) (len (l9 [[i 8],[i 8],[i 3],[i 24]] (0+t1.is0.toNat)))))&&(ka1 [CK.int .i64] (j7 (l9 [[i 8],[i 8],[i 3],[i 24]] (0+t1.is0.toNat)) 0))) (sl ((cnE tI (rt tI s.i8))&&true) (sl (Nat.beq t2.alt 1) (k ⟨1,W (s.is7+1),t2.i8,t2.b9,1,[[i t2.ka8,i t2.ka9,i t2.la0]]⟩) z) z) z) z) z) z) (e 1))
noncomputable def fa0{α:Type}(k:y9->α)(e:Nat->α)(z:α)(p:ia1)(s:y9):α:=let t1:=(n9 ⟨4,rt tI s.i8,s.b9⟩);let t2:=(Oa6 ⟨toI (hdA (j7 (l9 [[i 8],[i 8],[i 3],[i 24]] (0+t1.is0.toNat)) 0)),rt tI (rt tI s.i8),t1.b9⟩);(sl (decide (s.is7<p.is1)) (sl ((cnE tI s.i8)&&true) (sl (Nat.beq t1.alt 1) (sl (inB t1.is0 4) (sl (((Nat.blt (0+t1.is0.toNat) (len [[i 8],[i 8],[i 3],[i 24]]))&&(Nat.ble (0+1) (len (l9 [[i 8],[i 8],[i 3],[i 24]] (0+t1.is0.toNat)))))&&(ka1 [CK.int .i64] (j7 (l9 [[i 8],[i 8],[i 3],[i 24]] (0+t1.is0.toNat)) 0))) (sl ((cnE tI (rt tI s.i8))&&true) (sl (Nat.beq t2.alt 1) (sl (Nat.beq s.ns6 (len s.eh1)&&Nat.ble ((s.ns6+1)*24) room) (k ⟨1,W (s.is7+1),t2.i8,t2.b9,s.ns6+1,app s.eh1 [[i t2.ka8,i t2.ka9,i t2.la0]]⟩) z) z) z) z) z) z) z) (e 2))
noncomputable def Wa5(p:ia1)(s:y9):Stp y9:=(sel (Nat.beq s.ph 1) (fa0 .next .exit .fail p s) (Aa8 .next .exit .fail p s))
noncomputable def Eb9:Lo ia1 y9:=⟨En vc6,0,Vf3,[1,1,1,0,1,4,4],[1,5,6,7],.p,[⟨sUq::sIq::ru2 3 (sPq 0::.s (.o .nil)::sIq::ru2 19 []),[⟨0,2,true,some [[.c 1 (nL tI),.o (.int .i64)]]⟩],λa H=>(⟨aIq a 1⟩,⟨0,aIq a 7,hLq tI H 0 0 0,hIq H 0 0 1,0,[]⟩)⟩,⟨sUq::sIq::ru2 3 (sPq 0::.s (.o (.sl 1 0 (some 0) none))::sIq::ru2 19 []),[⟨0,2,true,some [[.c 1 (nL tI),.o (.int .i64)]]⟩,⟨27,3,true,none⟩],λa H=>(⟨aIq a 1⟩,⟨1,aIq a 7,hLq tI H 0 0 0,hIq H 0 0 1,slN (slT a 6),elT H 1⟩)⟩],Wa5,[(some 0,λp s=>upq (Tb1 p s) [(11,i s.is7),(12,i p.is1),(13,b (decide (s.is7<p.is1)))]),(some 0,λp s=>upq (Tb2 p s) [(11,i s.is7),(12,i p.is1),(13,b (decide (s.is7<p.is1)))])],ad8⟩
theorem ad9:Eb9.Ok:=Lo.ok [] (by kernel_rfl) .nil rfl (.cons (λa H=>by kernel_rfl) (.cons (λa H=>by kernel_rfl) .nil)) λp s=>(.sel (Nat.beq s.ph 1) (.of @fa0 (λF _ _ _ _ _=>by unfold fa0;(repeat' apply l6 (f:=F))<;>rfl) (by kernel_rfl)) (.of @Aa8 (λF _ _ _ _ _=>by unfold Aa8;(repeat' apply l6 (f:=F))<;>rfl) (by kernel_rfl)))
noncomputable def eb7(x:List Int)(y:Int):Option (b7×List b8):=let t1:=(lp (Wa5 (⟨y⟩:ia1)) (⟨0,0,rt tI x,0,0,[]⟩:y9));(sl ((cnE tI x)&&true) (sl (Nat.beq t1.1 1) (some (.v (.slice none 0 0),[])) (sl (Nat.beq t1.1 2) (some (.sl 0 0 t1.2.ns6 0,[⟨27,3,t1.2.eh1,true,false,0⟩])) none)) none)
noncomputable def xb6(x:List Int)(y:Int):List V3:=J8 (one (r1L tV)) (eb7 x y)
noncomputable def Zb6(x:List Int)(y:Int):Bool:=okO (one (r1L tV)) (eb7 x y)
noncomputable def Jc9:Sum:=oa5 (O3 tI) cI (λx y=>.guard (Zb6 x y) (.ret ((one (r1L tV)).enc (xb6 x y),[])))
theorem Cd0:g9 prog G 26 Jc9:=hb8 (bd b26 rd4) (one (r1L tV)) (o:=eb7) λx y=>ta7 (.s .p (.s .p (.s .p (.s (.s .p (.b (.u Eb9.ls))) .p)))) [Eb9.pr] (by kernel_rfl) (.cons ad9 .nil) (by kernel_rfl)
noncomputable def mc9:List (Nat×Sum):=[(70,zc1),(157,Gc8),(158,Wb1),(159,Jd3)]
theorem Wd3:i9 prog G mc9:=⟨Vc4,yd7,jc3,xe7,trivial⟩
structure na4 where
 c9:List Pln
 U7:List Pt
 is5:Int
 aa8:List Pln
structure Q1 where
 ph:Nat
 (is6 is7:Int)
noncomputable def nc0(p:na4)(s:Q1):St:=⟨eL tP p.c9::.unk::.unk::eL tX p.U7::.v (.slice none 0 0)::i p.is5::i s.is6::i s.is7::ra 38 [],[]⟩
noncomputable def nc1(p:na4)(s:Q1):St:=⟨eL tP p.c9::.unk::.unk::eL tX p.U7::eL tP p.aa8::i p.is5::i s.is6::i s.is7::ra 38 [],[]⟩
noncomputable def Cd1(p:na4)(s:Q1):St:=(sel (Nat.beq s.ph 1) (nc1 p s) (nc0 p s))
noncomputable def qa5{α:Type}(k:Q1->α)(e:Nat->α)(z:α)(p:na4)(s:Q1):α:=let t1:=(Xa5 (gL tP p.c9 p.is5.toNat) (gL tX p.U7 s.is7.toNat));(sl (decide (s.is7<(↑(List.length p.U7):Int))) (sl (inB p.is5 (List.length p.c9)) (sl (inB s.is7 (List.length p.U7)) (sl (t1==0) (k ⟨0,W (s.is6+1),W (s.is7+1)⟩) (k ⟨0,s.is6,W (s.is7+1)⟩)) z) z) (e 1))
noncomputable def qa6{α:Type}(k:Q1->α)(e:Nat->α)(z:α)(p:na4)(s:Q1):α:=let t1:=(Xa5 (gL tP p.c9 p.is5.toNat) (gL tX p.U7 s.is7.toNat));(sl (decide (s.is7<(↑(List.length p.U7):Int))) (sl (inB p.is5 (List.length p.c9)) (sl (inB s.is7 (List.length p.U7)) (sl (t1==0) (k ⟨1,W (s.is6+1),W (s.is7+1)⟩) (k ⟨1,s.is6,W (s.is7+1)⟩)) z) z) (e 2))
noncomputable def Ua8(p:na4)(s:Q1):Stp Q1:=(sel (Nat.beq s.ph 1) (qa6 .next .exit .fail p s) (qa5 .next .exit .fail p s))
noncomputable def Zb7:Lo na4 Q1:=⟨En mc9,0,bf5,[1,1,1,1,0,1,4,4,1,0,4,1,0,1,4,4],[0,3,4,5,6,7],.p,[⟨sLq tP::sUq::sUq::sLq tX::.s (.o .nil)::sIq::sIq::sIq::ru2 38 [],[],λa H=>(⟨aLq tP a 0,aLq tX a 3,aIq a 5,[]⟩,⟨0,aIq a 6,aIq a 7⟩)⟩,⟨sLq tP::sUq::sUq::sLq tX::sLq tP::sIq::sIq::sIq::ru2 38 [],[],λa H=>(⟨aLq tP a 0,aLq tX a 3,aIq a 5,aLq tP a 4⟩,⟨1,aIq a 6,aIq a 7⟩)⟩],Ua8,[(some 2,λp s=>upq (nc0 p s) [(19,i s.is7),(20,eL tX p.U7),(21,i (↑(List.length p.U7):Int)),(22,b (decide (s.is7<(↑(List.length p.U7):Int))))]),(some 2,λp s=>upq (nc1 p s) [(19,i s.is7),(20,eL tX p.U7),(21,i (↑(List.length p.U7):Int)),(22,b (decide (s.is7<(↑(List.length p.U7):Int))))])],Cd1⟩
theorem Cd2:Zb7.Ok:=Lo.ok [] (by kernel_rfl) .nil rfl (.cons (λa H=>by kernel_rfl) (.cons (λa H=>by kernel_rfl) .nil)) λp s=>(.sel (Nat.beq s.ph 1) (.of @qa6 (λF _ _ _ _ _=>by unfold qa6;(repeat' apply l6 (f:=F))<;>rfl) (by kernel_rfl)) (.of @qa5 (λF _ _ _ _ _=>by unfold qa5;(repeat' apply l6 (f:=F))<;>rfl) (by kernel_rfl)))
structure va6 where
structure J5 where
 ph:Nat
 c9:List Pln
 U7:List Pt
 is5:Int
 aa8:List Pln
noncomputable def nc2(p:va6)(s:J5):St:=⟨eL tP s.c9::.unk::.unk::eL tX s.U7::.v (.slice none 0 0)::i s.is5::ra 40 [],[]⟩
noncomputable def nc3(p:va6)(s:J5):St:=⟨eL tP s.c9::.unk::.unk::eL tX s.U7::eL tP s.aa8::i s.is5::ra 40 [],[]⟩
noncomputable def Cd3(p:va6)(s:J5):St:=(sel (Nat.beq s.ph 1) (nc3 p s) (nc2 p s))
noncomputable def qa7{α:Type}(k:J5->α)(e:Nat->α)(z:α)(p:va6)(s:J5):α:=let t1:=(lp (Ua8 (⟨rt tP s.c9,rt tX s.U7,s.is5,[]⟩:na4)) (⟨0,0,0⟩:Q1));let t2:=(zb3 [] (gL tP (rt tP s.c9) s.is5.toNat));let t3:=(zb3 (rt tP []) (gL tP (rt tP s.c9) s.is5.toNat));(sl (decide (s.is5<(↑(List.length s.c9):Int))) (sl ((cnE tP s.c9)&&((cnE tX s.U7)&&true)) (sl (Nat.beq t1.1 1) (sl (decide (t1.2.is6>=3)) (sl (inB s.is5 (List.length (rt tP s.c9))) (sl (zb4 [] (gL tP (rt tP s.c9) s.is5.toNat)) (k ⟨1,rt tP s.c9,rt tX s.U7,W (s.is5+1),t2⟩) z) z) (k ⟨0,rt tP s.c9,rt tX s.U7,W (s.is5+1),[]⟩)) (sl (Nat.beq t1.1 2) (sl (decide (t1.2.is6>=3)) (sl (inB s.is5 (List.length (rt tP s.c9))) (sl (okE tP []) (sl (zb4 (rt tP []) (gL tP (rt tP s.c9) s.is5.toNat)) (k ⟨1,rt tP s.c9,rt tX s.U7,W (s.is5+1),t3⟩) z) z) z) (k ⟨1,rt tP s.c9,rt tX s.U7,W (s.is5+1),[]⟩)) z)) z) (e 1))
noncomputable def qa8{α:Type}(k:J5->α)(e:Nat->α)(z:α)(p:va6)(s:J5):α:=let t1:=(lp (Ua8 (⟨rt tP s.c9,rt tX s.U7,s.is5,rt tP s.aa8⟩:na4)) (⟨1,0,0⟩:Q1));let t2:=(zb3 [] (gL tP (rt tP s.c9) s.is5.toNat));let t3:=(zb3 (rt tP (rt tP s.aa8)) (gL tP (rt tP s.c9) s.is5.toNat));(sl (decide (s.is5<(↑(List.length s.c9):Int))) (sl ((cnE tP s.c9)&&((cnE tX s.U7)&&((cnE tP s.aa8)&&true))) (sl (Nat.beq t1.1 1) (sl (decide (t1.2.is6>=3)) (sl (inB s.is5 (List.length (rt tP s.c9))) (sl (zb4 [] (gL tP (rt tP s.c9) s.is5.toNat)) (k ⟨1,rt tP s.c9,rt tX s.U7,W (s.is5+1),t2⟩) z) z) (k ⟨0,rt tP s.c9,rt tX s.U7,W (s.is5+1),[]⟩)) (sl (Nat.beq t1.1 2) (sl (decide (t1.2.is6>=3)) (sl (inB s.is5 (List.length (rt tP s.c9))) (sl (okE tP (rt tP s.aa8)) (sl (zb4 (rt tP (rt tP s.aa8)) (gL tP (rt tP s.c9) s.is5.toNat)) (k ⟨1,rt tP s.c9,rt tX s.U7,W (s.is5+1),t3⟩) z) z) z) (k ⟨1,rt tP s.c9,rt tX s.U7,W (s.is5+1),rt tP s.aa8⟩)) z)) z) (e 2))
noncomputable def nb1(p:va6)(s:J5):Stp J5:=(sel (Nat.beq s.ph 1) (qa8 .next .exit .fail p s) (qa7 .next .exit .fail p s))
noncomputable def Zb8:Lo va6 J5:=⟨En mc9,0,bf5,[1,1,1,1,0,1,4,4],[0,3,4,5],.s .p (.s (.b (.s .p (.s (.s .p (.b (.u Zb7.ls))) .p))) .p),[⟨sLq tP::sUq::sUq::sLq tX::.s (.o .nil)::sIq::ru2 40 [],[],λa H=>(⟨⟩,⟨0,aLq tP a 0,aLq tX a 3,aIq a 5,[]⟩)⟩,⟨sLq tP::sUq::sUq::sLq tX::sLq tP::sIq::ru2 40 [],[],λa H=>(⟨⟩,⟨1,aLq tP a 0,aLq tX a 3,aIq a 5,aLq tP a 4⟩)⟩],nb1,[(some 0,λp s=>upq (nc2 p s) [(13,i s.is5),(14,eL tP s.c9),(15,i (↑(List.length s.c9):Int)),(16,b (decide (s.is5<(↑(List.length s.c9):Int))))]),(some 0,λp s=>upq (nc3 p s) [(13,i s.is5),(14,eL tP s.c9),(15,i (↑(List.length s.c9):Int)),(16,b (decide (s.is5<(↑(List.length s.c9):Int))))])],Cd3⟩
theorem Cd4:Zb8.Ok:=Lo.ok [Zb7.pr] (by kernel_rfl) (.cons Cd2 .nil) rfl (.cons (λa H=>by kernel_rfl) (.cons (λa H=>by kernel_rfl) .nil)) λp s=>(.sel (Nat.beq s.ph 1) (.of @qa8 (λF _ _ _ _ _=>by unfold qa8;(repeat' apply l6 (f:=F))<;>rfl) (by kernel_rfl)) (.of @qa7 (λF _ _ _ _ _=>by unfold qa7;(repeat' apply l6 (f:=F))<;>rfl) (by kernel_rfl)))
noncomputable def Fb0(x:List Pln):Option (b7×List b8):=let t1:=(Xa7 (rt tP x));let t2:=(vb9 (rt tP x));let t3:=(lp (nb1 (⟨⟩:va6)) (⟨0,rt tP x,rt tX t2,0,[]⟩:J5));(sl (okE tP x) (sl (Xa8 (rt tP x)) (sl (!t1) (some (.v (.slice none 0 0),[])) (sl (okE tP x) (sl (wb0 (rt tP x)) (sl ((cnE tP x)&&((cnE tX t2)&&true)) (sl (Nat.beq t3.1 1) (some (.v (.slice none 0 0),[])) (sl (Nat.beq t3.1 2) (some (eL tP t3.2.aa8,[])) none)) none) none) none)) none) none)
noncomputable def Ac9(x:List Pln):List Pln:=J8 (one (r1L tP)) (Fb0 x)
noncomputable def Bc0(x:List Pln):Bool:=okO (one (r1L tP)) (Fb0 x)
noncomputable def rd5:Sum:=X6 (O3 tP) (λx=>.guard (Bc0 x) (.ret ((one (r1L tP)).enc (Ac9 x),[])))
theorem le9:g9 prog G 101 rd5:=Ia9 (bd hg6 Wd3) (one (r1L tP)) (o:=Fb0) λx=>ta7 (.s .p (.s .p (.s .p (.s .p (.s (.s .p (.b (.u Zb8.ls))) .p))))) [Zb8.pr] (by kernel_rfl) (.cons Cd4 .nil) (by kernel_rfl)
theorem yf9(p q:Pln):xa0 p q=some (i (na1 p q),[]):=by
 have key:∃t s,lp (L8 ⟨p.n.x,p.n.y,p.n.z,p.b,q.n.x,q.n.y,q.n.z,q.b⟩) ⟨0⟩=(t,s)/\((t=1/\na1 p q=-1)\/(t=2/\na1 p q=1)\/(t=3/\na1 p q=0)):=by
  refine S3 (step:=L8 ⟨p.n.x,p.n.y,p.n.z,p.b,q.n.x,q.n.y,q.n.z,q.b⟩) (mk:=λj (_:Unit)=>(⟨(j:Int)⟩:U4)) 4
   (λj _=>(1<=j->p.n.x=q.n.x)/\(2<=j->p.n.y=q.n.y)/\(3<=j->p.n.z=q.n.z)/\(4<=j->p.b=q.b))
   (λt s=>(t=1/\na1 p q=-1)\/(t=2/\na1 p q=1)\/(t=3/\na1 p q=0)) (by omega) (λj x hj hI=>?_) (λj x hj hI=>?_) 0 () ⟨by omega,by omega,by omega,by omega⟩
  ·have hn:=n8 hj (show 4<=4611686018427387904 by omega)
   simp only[L8,Z6,Int.toNat_natCast,hn];have hlt:(j:Int)<4:=by omega
   have hin:=e8 hj;have g:∀x1 x2 x3 x4:Int,((Nat.ble ((0+(j*1))+1) 4)&&(ka1 [CK.int .i64] (j7 [i x1,i x2,i x3,i x4] (0+(j*1)))))=true:=by
    intro x1 x2 x3 x4
    match j,hj with
    |0,_=>rfl
    |1,_=>rfl
    |2,_=>rfl
    |3,_=>rfl
   rw[btD hlt];simp only[hin,g,g7];obtain⟨i1,i2,i3,i4⟩:=hI
   match j,hj with
   |0,_ =>
    show Nx (sl (decide (p.n.x<q.n.x)) _ (sl (decide (p.n.x>q.n.x)) _ _)) _ _;refine Nx.sl (λh=>.ex ?_) λh=>Nx.sl (λh'=>.ex ?_) λh'=>.nx ⟨(),rfl,?_⟩<;>simp only[decide_eq_true_eq,decide_eq_false_iff_not] at h
    ·left;exact⟨rfl,by simp[na1,kb9,h]⟩
    ·right;left;simp only[decide_eq_true_eq] at h';exact⟨rfl,by simp[na1,kb9,h,h']⟩
    ·simp only[decide_eq_false_iff_not] at h';exact⟨by omega,by omega,by omega,by omega⟩
   |1,_ =>
    have j1:=i1 (by omega)
    show Nx (sl (decide (p.n.y<q.n.y)) _ (sl (decide (p.n.y>q.n.y)) _ _)) _ _;refine Nx.sl (λh=>.ex ?_) λh=>Nx.sl (λh'=>.ex ?_) λh'=>.nx ⟨(),rfl,?_⟩<;>simp only[decide_eq_true_eq,decide_eq_false_iff_not] at h
    ·left;exact⟨rfl,by simp[na1,kb9,h,j1]⟩
    ·right;left;simp only[decide_eq_true_eq] at h';exact⟨rfl,by simp[na1,kb9,h,h',j1]⟩
    ·simp only[decide_eq_false_iff_not] at h';exact⟨λ_=>j1,by omega,by omega,by omega⟩
   |2,_ =>
    have j1:=i1 (by omega);have j2:=i2 (by omega)
    show Nx (sl (decide (p.n.z<q.n.z)) _ (sl (decide (p.n.z>q.n.z)) _ _)) _ _;refine Nx.sl (λh=>.ex ?_) λh=>Nx.sl (λh'=>.ex ?_) λh'=>.nx ⟨(),rfl,?_⟩<;>simp only[decide_eq_true_eq,decide_eq_false_iff_not] at h
    ·left;exact⟨rfl,by simp[na1,kb9,h,j1,j2]⟩
    ·right;left;simp only[decide_eq_true_eq] at h';exact⟨rfl,by simp[na1,kb9,h,h',j1,j2]⟩
    ·simp only[decide_eq_false_iff_not] at h';exact⟨λ_=>j1,λ_=>j2,by omega,by omega⟩
   |3,_ =>
    have j1:=i1 (by omega);have j2:=i2 (by omega);have j3:=i3 (by omega)
    show Nx (sl (decide (p.b<q.b)) _ (sl (decide (p.b>q.b)) _ _)) _ _;refine Nx.sl (λh=>.ex ?_) λh=>Nx.sl (λh'=>.ex ?_) λh'=>.nx ⟨(),rfl,?_⟩<;>simp only[decide_eq_true_eq,decide_eq_false_iff_not] at h
    ·left;exact⟨rfl,by simp[na1,kb9,h,j1,j2,j3]⟩
    ·right;left;simp only[decide_eq_true_eq] at h';exact⟨rfl,by simp[na1,kb9,h,h',j1,j2,j3]⟩
    ·simp only[decide_eq_false_iff_not] at h';exact⟨λ_=>j1,λ_=>j2,λ_=>j3,by omega⟩
  ·simp only[L8,Z6];rw[bfD (by omega)]
   obtain⟨i1,i2,i3,i4⟩:=hI;have j1:=i1 (by omega);have j2:=i2 (by omega);have j3:=i3 (by omega);have j4:=i4 (by omega)
   exact⟨_,rfl,.inr (.inr ⟨rfl,by simp[na1,kb9,j1,j2,j3,j4]⟩)⟩
 obtain⟨t,s,h1,h2⟩:=key;unfold xa0
 simp only
 rw[h1]
 rcases h2 with⟨rfl,e⟩|⟨rfl,e⟩|⟨rfl,e⟩<;>rw[e]<;>rfl
theorem gf1(p q:Pln):fa9 p q=na1 p q:=by unfold fa9;rw[yf9];rfl
def atP(x:List Pln)(y:Pln):Nat:=x.findIdx λp=>!decide (na1 p y<0)
noncomputable def ins(x:List Pln)(y:Pln):List Pln:=if (atP x y<x.length/\eqP (gL tP x (atP x y)) y=true) then x else qb7 x y (atP x y)
theorem rd6(x:List Pln)(y:Pln)(hx:x.length<=1000000):Rd (one (r1L tP)) (Sb5 x y) (λr=>r=ins x y):=by
 have h:=Va6 (step:=Pa0 ⟨x,y.n.x,y.n.y,y.n.z,y.b⟩) (mk:=λj=>(⟨(j:Int)⟩:va5)) (c:=λp=>!decide (na1 p y<0)) (u:=1) (fin:=2) tP x (by omega)
  (λj hj=>by
   simp only[Pa0,Ua6,Int.toNat_natCast,xe2,gf1,n8 hj (show x.length<=4611686018427387904 by omega)]
   rw[btD (f9 hj),bt (e8 hj),g7];show sl (decide (na1 (gL tP x j) y<0)) _ _=_;cases decide (na1 (gL tP x j) y<0)<;>rfl)
  (by simp only[Pa0,Ua6];rw[bfD (l7 (Qjat _))]) 0 (Qjz _)
 rw[Qjaq] at h;have key:∃t,lp (Pa0 ⟨x,y.n.x,y.n.y,y.n.z,y.b⟩) ⟨0⟩=(t,⟨((atP x y:Nat):Int)⟩)/\(t=1\/t=2):=by
  rw[show (⟨0⟩:va5)=⟨((0:Nat):Int)⟩ from rfl,h]
  split
  ·exact⟨1,by rw[Qja];rfl,.inl rfl⟩
  ·rename_i hn;refine⟨2,?_,.inr rfl⟩
   have:atP x y=x.length:=by
    unfold atP;rw[List.findIdx_eq_length];intro p hp;cases hb:(!decide (na1 p y<0)) with
    |false=>rfl
    |true=>exact absurd (Qjal.2 ⟨p,hp,hb⟩) hn
   rw[this]
 obtain⟨t,h1,h2⟩:=key;have h3:atP x y<=x.length:=List.findIdx_le_length;have hdef:ins x y=if (atP x y<x.length/\eqP (gL tP x (atP x y)) y=true) then x else qb7 x y (atP x y):=rfl
 generalize atP x y=n at *
 have hlo:inB (n:Int) (x.length+1)=true:=e8 (by omega)
 have hd:(bL tP (x.take n)).length=n:=by rw[<- o0,U9,Qjb];omega
 have hlen:(qb7 x y n).length=x.length+1:=by unfold qb7;simp only[Qjc,List.length_cons,Qjb,Qjv];omega
 have lt:len (bL tP (x.take n))=n:=by rw[o0];exact hd
 have ld:len (bL tP (x.drop n))=x.length-n:=by rw[U9,Qjv]
 have b1:(Nat.beq 1 1&&Nat.ble ((1+(x.length-n))*32) room)=true:=by rw[fa4 (by omega)];rfl
 have b2:(Nat.beq 0 0&&Nat.ble ((0+n)*32) room)=true:=by rw[fa4 (by omega)];rfl
 have e0:app [] (bL tP (x.take n))=bL tP (x.take n):=rfl;have b3:(Nat.beq (0+n) n&&Nat.ble (((0+n)+1)*32) room)=true:=by rw[fa4 (by omega),Qja,Qjl];rfl
 have l3:len (bL tP (x.take n++[y]))=n+1:=by rw[U9,Qjc,Qjb];simp only[List.length_singleton];omega
 have b4:(Nat.beq ((0+n)+1) (n+1)&&Nat.ble ((((0+n)+1)+(x.length-n))*32) room)=true:=by rw[fa4 (by omega),Qja,Qjl];rfl
 have z0:∀{k:Nat},Nat.beq k 0=true->k=0:=λ{k} h=>Qjt h
 have fin:ins x y=qb7 x y n->∀m r,m=x.length+1->r=bL tP (qb7 x y n)->Rd (one (r1L tP)) (some (.sl 0 0 m 0,[⟨73,4,r,true,false,0⟩])) (λr=>r=ins x y) :=
  λhq m r hm hr=>Ud7 (by rw[hlen];exact hm) hr hq.symm
 have tail : ins x y = qb7 x y n → Rd (one (r1L tP)) (sl (Nat.beq n 0) (sl (Nat.beq (x.length - n) 0) (some ((.sl 0 0 1 0), [⟨73, 4, [[(i y.n.x), (i y.n.y), (i y.n.z), (i y.b)]], true, false, 0⟩]))
   (some ((.sl 0 0 (1+(x.length-n)) 0),[⟨73,4,(app [[(i y.n.x),(i y.n.y),(i y.n.z),(i y.b)]] (bL tP (x.drop n))),true,false,0⟩])))
   (sl (Nat.beq (x.length-n) 0) (some (.sl 0 0 ((0+n)+1) 0,[⟨73,4,bL tP (x.take n++[y]),true,false,0⟩]))
    (some ((.sl 0 0 (((0+n)+1)+(x.length-n)) 0),[⟨73,4,(app (bL tP (x.take n++[y])) (bL tP (x.drop n))),true,false,0⟩])))) (λr=>r=ins x y):=λhq=>by
  refine Rd.sl (λq1=>Rd.sl (λq2=>?_) (λq2=>?_)) (λq1=>Rd.sl (λq2=>?_) (λq2=>?_))
  ·have:=z0 q1;have:=z0 q2
   refine fin hq _ _ (by omega) ?_
   have:x=[]:=Qjs (by omega)
   subst this;rw[show n=0 by omega];rfl
  ·have:=z0 q1;subst this
   exact fin hq _ _ (by omega) rfl
  ·have:=z0 q2
   refine fin hq _ _ (by omega) ?_
   unfold qb7;rw[show x.drop n=[] from Qjaa (by omega)]
  ·refine fin hq _ _ (by omega) ?_
   rw[Xa2];unfold qb7;rw[Qjai];rfl
 unfold Sb5;simp only[g8,i7];rw[h1];simp only[Int.toNat_natCast,Ac4 x n h3,Ac5,lt,ld,b1,b2,e0,b3,Ic9,l3,b4,hlo,g7]
 have main : Rd (one (r1L tP)) (sl (decide ((n : Int) < (x.length : Int))) (sl (inB (n : Int) x.length) (sl (((gL tP x n).n.x == y.n.x) && (((gL tP x n).n.y == y.n.y) && (((gL tP x n).n.z == y.n.z) && (((gL tP x n).b == y.b) && true)))) (some (eL tP x, []))
   (sl (Nat.beq n 0) (sl (Nat.beq (x.length-n) 0) (some (.sl 0 0 1 0,[⟨73,4,[[i y.n.x,i y.n.y,i y.n.z,i y.b]],true,false,0⟩]))
   (some ((.sl 0 0 (1+(x.length-n)) 0),[⟨73,4,(app [[(i y.n.x),(i y.n.y),(i y.n.z),(i y.b)]] (bL tP (x.drop n))),true,false,0⟩])))
   (sl (Nat.beq (x.length-n) 0) (some (.sl 0 0 ((0+n)+1) 0,[⟨73,4,bL tP (x.take n++[y]),true,false,0⟩]))
    (some ((.sl 0 0 (((0+n)+1)+(x.length-n)) 0),[⟨73,4,(app (bL tP (x.take n++[y])) (bL tP (x.drop n))),true,false,0⟩]))))) none)
   (sl (Nat.beq n 0) (sl (Nat.beq (x.length-n) 0) (some (.sl 0 0 1 0,[⟨73,4,[[i y.n.x,i y.n.y,i y.n.z,i y.b]],true,false,0⟩]))
   (some ((.sl 0 0 (1+(x.length-n)) 0),[⟨73,4,(app [[(i y.n.x),(i y.n.y),(i y.n.z),(i y.b)]] (bL tP (x.drop n))),true,false,0⟩])))
   (sl (Nat.beq (x.length-n) 0) (some (.sl 0 0 ((0+n)+1) 0,[⟨73,4,bL tP (x.take n++[y]),true,false,0⟩]))
    (some ((.sl 0 0 (((0+n)+1)+(x.length-n)) 0),[⟨73,4,(app (bL tP (x.take n++[y])) (bL tP (x.drop n))),true,false,0⟩]))))) (λr=>r=ins x y):=by
  by_cases hn:n<x.length
  ·rw[btD (f9 hn),bt (e8 hn)];exact Rd.sl (λq=>⟨_,x,rfl,uc8 tP x,by rw[hdef,if_pos ⟨hn,q⟩]⟩) λq=>tail (by
    rw[hdef,if_neg λh=>?_]
    have h:=h.2;rw[show eqP (gL tP x n) y=false from q] at h
    cases h)
  ·rw[bfD (l7 hn)];exact tail (by rw[hdef,if_neg λh=>hn h.1])
 rcases h2 with rfl|rfl
 ·exact main
 ·exact main
def Za6(l:List Pln):Prop:=l.Pairwise LtP
theorem Rc6{x y z:Pln}(h1:LtP x y)(h2:LtP y z):LtP x z:=by unfold LtP at *;omega
theorem ed7(x:Pln):¬ LtP x x:=by unfold LtP;omega
theorem Fe8(x y:Pln):LtP x y\/x=y\/LtP y x:=by
 by_cases h1:LtP x y
 ·exact .inl h1
 ·by_cases h2:LtP y x
  ·exact .inr (.inr h2)
  ·refine .inr (.inl ?_);unfold LtP at h1 h2;have e1:x.n.x=y.n.x:=by omega
   have e2:x.n.y=y.n.y:=by omega
   have e3:x.n.z=y.n.z:=by omega
   have e4:x.b=y.b:=by omega
   cases x with | mk n b=>cases y with | mk m c=>cases n;cases m;simp_all
theorem Jd4:∀{l r:List Pln},Za6 l->Za6 r->(∀p,p∈l↔p∈r)->l=r
 |[],[],_,_,_=>rfl
 |[],b::r,_,_,h=>by have:=(h b).2 Qjf;cases this
 |a::l,[],_,_,h=>by have:=(h a).1 Qjf;cases this
 |a::l,b::r,hl,hr,h=>by
  obtain⟨hl1,hl2⟩:=Qjp.1 hl;obtain⟨hr1,hr2⟩:=Qjp.1 hr;have hab:a=b:=by
   rcases Qjd.1 ((h a).1 Qjf) with e|h1
   ·exact e
   ·rcases Qjd.1 ((h b).2 Qjf) with e|h2
    ·exact e.symm
    ·exact absurd (Rc6 (hr1 a h1) (hl1 b h2)) (ed7 b)
  subst hab;rw[Jd4 hl2 hr2 λp=>?_]
  constructor
  ·intro hp
   rcases Qjd.1 ((h p).1 (Qje _ hp)) with e|h1
   ·subst e;exact absurd (hl1 p hp) (ed7 p)
   ·exact h1
  ·intro hp
   rcases Qjd.1 ((h p).2 (Qje _ hp)) with e|h1
   ·subst e;exact absurd (hr1 p hp) (ed7 p)
   ·exact h1
def rb1:List Pln->Pln->List Pln
 |[],y=>[y]
 |a::l,y=>if na1 a y<0 then a::rb1 l y else if eqP a y then a::l else y::a::l
theorem xe8(y:Pln):∀x,ins x y=rb1 x y
 |[]=>rfl
 |a::l=>by
  have ih:=xe8 y l;unfold rb1;by_cases h:na1 a y<0
  ·rw[if_pos h,<- ih];have e:atP (a::l) y=atP l y+1:=by unfold atP;rw[Qjah];simp[h]
   unfold ins;rw[e];have e2:gL tP (a::l) (atP l y+1)=gL tP l (atP l y):=rfl;rw[e2];simp only[List.length_cons,Nat.add_lt_add_iff_right];split
   ·rfl
   ·rfl
  ·rw[if_neg h];have e:atP (a::l) y=0:=by unfold atP;rw[Qjah];simp[h]
   unfold ins;rw[e];have e2:gL tP (a::l) 0=a:=rfl;rw[e2];simp only[List.length_cons,Nat.zero_lt_succ,true_and];split
   ·rfl
   ·rfl
theorem Fb1(y p:Pln):∀x,p∈rb1 x y↔p=y\/p∈x
 |[]=>by simp[rb1]
 |a::l=>by
  unfold rb1;have ih:=Fb1 y p l;split
  ·simp only[Qjd,ih];constructor
   ·rintro (h|h|h)
    ·exact .inr (.inl h)
    ·exact .inl h
    ·exact .inr (.inr h)
   ·rintro (h|h|h)
    ·exact .inr (.inl h)
    ·exact .inl h
    ·exact .inr (.inr h)
  ·split
   ·rename_i h;rw[Kb0] at h;subst h;simp only[Qjd];constructor
    ·exact λh=>.inr h
    ·rintro (h|h)
     ·exact .inl h
     ·exact h
   ·simp only[Qjd]
theorem nc4(y:Pln):∀{x},Za6 x->Za6 (rb1 x y)
 |[],_=>List.pairwise_singleton _ _
 |a::l,h=>by
  obtain⟨h1,h2⟩:=Qjp.1 h;unfold rb1;split
  ·rename_i hc;rw[Vd3] at hc;refine Qjp.2 ⟨λp hp=>?_,nc4 y h2⟩
   rcases (Fb1 y p l).1 hp with e|hp
   ·subst e;exact hc
   ·exact h1 p hp
  ·rename_i hc;rw[Vd3] at hc;split
   ·exact h
   ·rename_i hne;have hlt:LtP y a:=by
     rcases Fe8 y a with h|h|h
     ·exact h
     ·exact absurd ((Kb0 _ _).2 h.symm) hne
     ·exact absurd h hc
    refine Qjp.2 ⟨λp hp=>?_,h⟩
    rcases Qjd.1 hp with e|hp
    ·subst e;exact hlt
    ·exact Rc6 hlt (h1 p hp)
theorem Kc0{σ:Type}{step:σ->Stp σ}{s:σ}{t:Nat}(h:step s=.exit t):lp step s=(t,s):=by rw[We9];exact jd2 h
theorem Jd5:Za4 []=[]:=Qjs (rc6 [])
theorem me0:lean []=[]:=by
 unfold lean;rw[xe6,if_pos rfl,List.filter_nil,Jd5];rfl
theorem og4(X:List Pt):aa3 ⟨X⟩=⟨1,X⟩:=by
 unfold aa3 G4 sa7 J3;simp only[g8,i7];rw[Kc0 (step:=ja8 ⟨X⟩) (s:=⟨⟩) (t:=1) rfl];rfl
theorem bg6:ga5 ⟨⟩=⟨1⟩:=by
 have h1:G2 ⟨⟩=⟨1⟩:=by
  unfold G2 r8
  simp only
  rw[Kc0 (step:=N7 ⟨⟩) (s:=⟨⟩) (t:=1) rfl];rfl
 have h2:Q0 ⟨⟩=⟨1⟩:=by
  unfold Q0 A8
  simp only
  rw[Kc0 (step:=L4 ⟨⟩) (s:=⟨⟩) (t:=1) (by
   unfold L4 J4;simp only[h1]
   rfl)]
  rfl
 unfold ga5 L9;simp only[h2];rfl
theorem me1(x:Unit):eb5 x=some (.v (.slice none 0 0),[]):=by
 have hn:([]:List Pln).length<=1000000000:=by simp
 unfold eb5;simp only[g8,i7,od3 hn,od4 hn,od1 hn,od2 hn,xe6,og4,bg6];rfl
theorem me2(x:Addr×Nat):Rd (one (r1L tP)) (eb6 x) (λr=>r=[]):=by
 have hn:([]:List Pln).length<=1000000000:=by simp
 have hX:=Ud5 [];obtain⟨m,r,e1,e2,e3,e4⟩:=Jd2 [] (pts []) hn (by omega)
 have hr:r=[]:=Qjs (by simpa using e4)
 subst hr;have hm:m=0:=by simpa using e2
 subst hm;obtain⟨m2,r2,k1,k2,k3⟩:=qd9 [] 0 (by simp) hn
 have e1:J2 ⟨0,[],pts []⟩=_:=e1;unfold eb6;simp only[g8,i7,od3 hn,od4 hn,od1 hn,od2 hn,xe6,e1];have hs:app (bL tP (Za4 (slR tP (bL tP []) 0 0))) (j7 (bL tP []) 0)=bL tP []:=by
  rw[show slR tP (bL tP []) 0 0=[] from rfl,Jd5];rfl
 rw[hs,k1];have hfin:r2.take m2=[]:=by rw[k3];rfl
 exact ff3 (P:=λr=>r=[]) k2 rfl hfin
noncomputable def Q3(l:List Pln):List Pln:=lean l
noncomputable def r7(l:List Pln):Bool:=decide (l.length<=1000000)
noncomputable def Zb9:Sum:=X6 (O3 tP) λl=>.guard (r7 l) (.ret ((one (r1L tP)).enc (Q3 l),[]))
theorem vc7:g9 prog G 98 Zb9:=by
 refine Pf3 (Wd0 Vd5 λa r hr=>?_) (Wd0 Bd7 λa r hr=>?_) (Wd0 Bd9 λa r hr=>?_)
 ·obtain⟨p,c⟩:=a;obtain⟨hg,hr⟩:=DT.run_guard_some hr;have hl:c.length<=1000000:=by
   have:=of_decide_eq_true hg
   simp only[List.length_cons] at this;omega
  rw[Pf0 p c hl,Pf1 p c hl];exact hr
 ·obtain⟨hg,hr⟩:=DT.run_guard_some hr;have e:Zb2 a=lean []:=by unfold Zb2;rw[me1,me0];exact Ga6 _ rfl
  have e2:Zb3 a=true:=by unfold Zb3;rw[me1];exact Ta9 (r:=[]) _ rfl
  rw[e,e2];exact hr
 ·obtain⟨hg,hr⟩:=DT.run_guard_some hr;have e:Jc7 a=lean []:=by rw[me0];exact (me2 a).p
  rw[e,show Jc8 a=true from (me2 a).g]
  exact hr
end Go.Ev.Ce
namespace Go.Ev.Ce
def rmZ(p:Pln)(x:Pt):Int:=p.b*x.pw-(p.n.x*x.px+p.n.y*x.py+p.n.z*x.pz)
structure Inr(r:List Pln)(x:Pt):Prop where
 w:0<x.pw
 h:∀p∈r,0<=rmZ p x
def V8(p:Pln):Pln:=⟨⟨-p.n.x,-p.n.y,-p.n.z⟩,-p.b⟩
theorem Aa9(p:Pln)(x:Pt):rmZ (V8 p) x=-rmZ p x:=by unfold rmZ V8;grind
structure Cn(r:List Pln)(x:Pt):Prop extends Inr r x where
 c:∃p q s,p∈r/\q∈r/\s∈r/\mw p q s≠0/\rmZ p x=0/\rmZ q x=0/\rmZ s x=0
def Bdd(r:List Pln):Prop:=∀d:V3,d≠⟨0,0,0⟩->∃p∈r,0<dot p.n d
def go(x:Pt)(q:Pln)(d:V3):Pt:=⟨x.px*dot q.n d+rmZ q x*d.x,x.py*dot q.n d+rmZ q x*d.y,x.pz*dot q.n d+rmZ q x*d.z,x.pw*dot q.n d⟩
theorem me3(p q:Pln)(x:Pt)(d:V3):rmZ p (go x q d)=dot q.n d*rmZ p x-rmZ q x*dot p.n d:=by simp only[rmZ,go,dot];grind
theorem nb2{a b c:Int}(hc:0<c)(h:a*c<=b*c):a<=b:=Int.le_of_mul_le_mul_right h hc
theorem first(x:Pt)(d:V3):∀r:List Pln,(∀p∈r,0<=rmZ p x)->(∃p∈r,0<dot p.n d)->∃q∈r,0<dot q.n d/\∀p∈r,0<dot p.n d->rmZ q x*dot p.n d<=rmZ p x*dot q.n d
 |[],_,h=>by obtain⟨p,hp,_⟩:=h;cases hp
 |a::r,hx,h=>by
  by_cases hr:∃p∈r,0<dot p.n d
  ·obtain⟨q,hq,h1,h2⟩:=first x d r (λp hp=>hx p (Qje _ hp)) hr
   by_cases ha:0<dot a.n d
   ·by_cases hc:rmZ q x*dot a.n d<=rmZ a x*dot q.n d
    ·refine⟨q,Qje _ hq,h1,λp hp h3=>?_⟩
     rcases Qjd.1 hp with rfl|hp
     ·exact hc
     ·exact h2 p hp h3
    ·refine⟨a,Qjf,ha,λp hp h3=>?_⟩
     rcases Qjd.1 hp with rfl|hp
     ·exact Int.le_refl _
     ·have h4:=h2 p hp h3;have h5:rmZ a x*dot q.n d<rmZ q x*dot a.n d:=by omega
      have h6:=Qjq h4 (Qjg ha);have h7:=Int.mul_lt_mul_of_pos_right h5 h3;have e1:rmZ q x*dot p.n d*dot a.n d=rmZ q x*dot a.n d*dot p.n d:=by grind
      have e2:rmZ a x*dot q.n d*dot p.n d=rmZ a x*dot p.n d*dot q.n d:=by grind
      have e3:rmZ p x*dot q.n d*dot a.n d=rmZ p x*dot a.n d*dot q.n d:=by grind
      refine nb2 h1 ?_;omega
   ·refine⟨q,Qje _ hq,h1,λp hp h3=>?_⟩
    rcases Qjd.1 hp with rfl|hp
    ·exact absurd h3 ha
    ·exact h2 p hp h3
  ·have ha : 0 < dot a.n d := by
    obtain⟨p,hp,h3⟩:=h
    rcases Qjd.1 hp with rfl|hp
    ·exact h3
    ·exact absurd ⟨p,hp,h3⟩ hr
   refine⟨a,Qjf,ha,λp hp h3=>?_⟩
   rcases Qjd.1 hp with rfl|hp
   ·exact Int.le_refl _
   ·exact absurd ⟨p,hp,h3⟩ hr
theorem step{r:List Pln}{x:Pt}(hx:Inr r x)(d:V3)(h:∃p∈r,0<dot p.n d):∃q∈r,0<dot q.n d/\Inr r (go x q d):=by
 obtain⟨q,hq,h1,h2⟩:=first x d r hx.h h;refine⟨q,hq,h1,⟨Qjaf hx.w h1,λp hp=>?_⟩⟩
 rw[me3];have h3:=hx.h p hp;have h4:=hx.h q hq;by_cases h5:0<dot p.n d
 ·have:=h2 p hp h5
  have e:rmZ p x*dot q.n d=dot q.n d*rmZ p x:=Int.mul_comm _ _;omega
 ·have h6:=Qjh (Qjg h1) h3;have h7:rmZ q x*dot p.n d<=0:=Int.mul_nonpos_of_nonneg_of_nonpos h4 (by omega)
  omega
theorem gf2{h q:Pln}{x:Pt}{d:V3}(h1:0<=rmZ q x)(h2:0<=dot h.n d):rmZ h (go x q d)*x.pw<=rmZ h x*(go x q d).pw\/x.pw<=0:=by
 rcases Int.lt_or_le 0 x.pw with hw|hw
 ·left;rw[me3]
  have:=Qjh h1 h2
  have h3:=Qjh this (Qjg hw);have e:rmZ h x*(go x q d).pw=dot q.n d*rmZ h x*x.pw:=by unfold go;grind
  have e2:(dot q.n d*rmZ h x-rmZ q x*dot h.n d)*x.pw=dot q.n d*rmZ h x*x.pw-rmZ q x*dot h.n d*x.pw:=by grind
  omega
 ·exact .inr hw
def neg(d:V3):V3:=⟨-d.x,-d.y,-d.z⟩
theorem Fe9(a d:V3):dot a (neg d)=-dot a d:=by unfold dot neg;grind
theorem Wd4{d:V3}(h:d≠⟨0,0,0⟩):neg d≠⟨0,0,0⟩:=λh'=>h (by
 cases d;unfold neg at h';simp only[V3.mk.injEq] at h' ⊢;omega)
theorem turn(h:Pln){d:V3}(hd:d≠⟨0,0,0⟩):∃e,e≠(⟨0,0,0⟩:V3)/\0<=dot h.n e/\∀a,dot a d=0->dot a e=0:=by
 by_cases h1:0<=dot h.n d
 ·exact⟨d,hd,h1,λ_ h=>h⟩
 ·exact⟨neg d,Wd4 hd,by rw[Fe9];omega,λa h=>by rw[Fe9,h];rfl⟩
theorem Pf4{n:V3}(hn:n≠⟨0,0,0⟩):∃d,d≠(⟨0,0,0⟩:V3)/\dot n d=0:=by
 by_cases h:n.x=0/\n.y=0
 ·exact⟨⟨1,0,0⟩,by simp,by unfold dot;simp[h.1]⟩
 ·refine⟨⟨n.y,-n.x,0⟩,λh'=>h ?_,by unfold dot;grind⟩
  simp only[V3.mk.injEq] at h';omega
theorem V3.ext'{a b:V3}(h1:a.x=b.x)(h2:a.y=b.y)(h3:a.z=b.z):a=b:=by cases a;cases b;simp_all
theorem me4{m n d:V3}(hm:m≠⟨0,0,0⟩)(h1:dot m d=0)(h2:dot n d≠0):d9 m n≠⟨0,0,0⟩:=λh=>by
 unfold d9 at h;simp only[V3.mk.injEq] at h;obtain⟨c1,c2,c3⟩:=h;unfold dot at h1 h2;have e1:m.x*(n.x*d.x+n.y*d.y+n.z*d.z)=0:=by grind
 have e2:m.y*(n.x*d.x+n.y*d.y+n.z*d.z)=0:=by grind
 have e3:m.z*(n.x*d.x+n.y*d.y+n.z*d.z)=0:=by grind
 have k:∀{a:Int},a*(n.x*d.x+n.y*d.y+n.z*d.z)=0->a=0:=λh=>(Int.mul_eq_zero.1 h).resolve_right h2
 exact hm (V3.ext' (k e1) (k e2) (k e3))
theorem Wc8(a b:V3):dot a (d9 a b)=0:=by unfold dot d9;grind
theorem Wc9(a b:V3):dot b (d9 a b)=0:=by unfold dot d9;grind
theorem gf3{p q:Pln}{x:Pt}{d:V3}(h:rmZ p x=0)(h':dot p.n d=0):rmZ p (go x q d)=0:=by rw[me3,h,h'];simp
theorem gf4(q:Pln)(x:Pt)(d:V3):rmZ q (go x q d)=0:=by rw[me3];grind
theorem bg7{q:Pln}{d:V3}(h:0<dot q.n d):q.n≠⟨0,0,0⟩:=λh'=>by rw[h'] at h;unfold dot at h;simp at h
theorem If5{a b c u v w:Int}(hu:0<u)(hv:0<v)(hw:0<w)(h1:a*v<=b*u)(h2:b*w<=c*v):a*w<=c*u:=by
 have h3:=Qjq h1 (Qjg hw);have h4:=Qjq h2 (Qjg hu);have e1:a*v*w=a*w*v:=by grind
 have e2:b*u*w=b*w*u:=by grind
 have e3:c*v*u=c*u*v:=by grind
 exact nb2 hv (by omega)
theorem gf5{r:List Pln}(hb:Bdd r)(h:Pln){x:Pt}(hx:Inr r x):∃v,Cn r v/\rmZ h v*x.pw<=rmZ h x*v.pw:=by
 obtain⟨d0,n0,p0,_⟩:=turn h (d:=⟨1,0,0⟩) (by simp)
 obtain⟨q1,m1,k1,i1⟩:=step hx d0 (hb d0 n0);have l1:=(gf2 (h:=h) (x:=x) (hx.h q1 m1) p0).resolve_right (by have:=hx.w;omega)
 obtain⟨e1,ne1,he1⟩:=Pf4 (bg7 k1);obtain⟨d1,n1,p1,z1⟩:=turn h ne1;obtain⟨q2,m2,k2,i2⟩:=step i1 d1 (hb d1 n1);have l2:=(gf2 (h:=h) (x:=go x q1 d0) (i1.h q2 m2) p1).resolve_right (by have:=i1.w;omega)
 have hc:=me4 (bg7 k1) (z1 _ he1) (n:=q2.n) (by omega)
 obtain⟨d2,n2,p2,z2⟩:=turn h hc;obtain⟨q3,m3,k3,i3⟩:=step i2 d2 (hb d2 n2);have l3:=(gf2 (h:=h) (x:=go (go x q1 d0) q2 d1) (i2.h q3 m3) p2).resolve_right (by have:=i2.w;omega)
 have a1:rmZ q1 (go (go x q1 d0) q2 d1)=0:=gf3 (gf4 _ _ _) (z1 _ he1);refine⟨_,⟨i3,q3,q1,q2,m3,m1,m2,λh0=>?_,gf4 _ _ _,gf3 a1 (z2 _ (Wc8 _ _)),gf3 (gf4 _ _ _) (z2 _ (Wc9 _ _))⟩,?_⟩
 ·have:dot q3.n d2=0:=z2 _ h0
  omega
 ·exact If5 i3.w i2.w hx.w l3 (If5 i2.w i1.w hx.w l2 l1)
theorem ub4{r:List Pln}(hb:Bdd r){h:Pln}(hv:∀v,Cn r v->0<=rmZ h v){x:Pt}(hx:Inr r x):0<=rmZ h x:=by
 obtain⟨v,h1,h2⟩:=gf5 hb h hx;have h3:=Qjh (hv v h1) (Qjg hx.w);exact nb2 h1.w (by rw[Int.zero_mul];omega)
def mid(x y:Pt):Pt:=⟨x.px*y.pw+y.px*x.pw,x.py*y.pw+y.py*x.pw,x.pz*y.pw+y.pz*x.pw,2*(x.pw*y.pw)⟩
theorem gf6(p:Pln)(x y:Pt):rmZ p (mid x y)=rmZ p x*y.pw+rmZ p y*x.pw:=by unfold rmZ mid;grind
theorem Inr.mid{r:List Pln}{x y:Pt}(hx:Inr r x)(hy:Inr r y):Inr r (mid x y):=⟨by unfold Ce.mid;exact Qjaf (by decide) (Qjaf hx.w hy.w),λp hp=>by
 rw[gf6];exact Int.add_nonneg (Qjh (hx.h p hp) (Qjg hy.w)) (Qjh (hy.h p hp) (Qjg hx.w))⟩
def Wd5(r:List Pln):Prop:=∃x:Pt,0<x.pw/\∀p∈r,0<rmZ p x
theorem Ge0{r:List Pln}:∀(l:List Pln),(∀p∈l,p∈r)->(∃x,Inr r x)->(∀p∈l,∃v,Inr r v/\0<rmZ p v)->∃x,Inr r x/\∀p∈l,0<rmZ p x
 |[],_,h,_=>by obtain⟨x,h⟩:=h;exact⟨x,h,λp hp=>by cases hp⟩
 |a::l,hl,h,hv=>by
  obtain⟨x,h1,h2⟩:=Ge0 l (λp hp=>hl p (Qje _ hp)) h (λp hp=>hv p (Qje _ hp))
  obtain⟨y,h3,h4⟩:=hv a Qjf;refine⟨mid x y,h1.mid h3,λp hp=>?_⟩
  rw[gf6]
  rcases Qjd.1 hp with rfl|hp
  ·have:=Qjh (h1.h p (hl p Qjf)) (Qjg h3.w)
   have:=Qjaf h4 h1.w
   omega
  ·have:=Qjaf (h2 p hp) h3.w
   have:=Qjh (h3.h p (hl p (Qje _ hp))) (Qjg h1.w)
   omega
theorem gf7{r:List Pln}(hb:Bdd r)(h0:r≠[]):Wd5 r↔∀p∈r,∃v,Cn r v/\0<rmZ p v:=by
 constructor
 ·intro ⟨x,hw,hx⟩ p hp;by_cases h:∃v,Cn r v/\0<rmZ p v
  ·exact h
  ·have hx':Inr r x:=⟨hw,λq hq=>Qjg (hx q hq)⟩
   have:=ub4 hb (h:=V8 p) (λv hv=>by
    rw[Aa9]
    have:¬ 0<rmZ p v:=λh'=>h ⟨v,hv,h'⟩
    omega) hx'
   rw[Aa9] at this
   have:=hx p hp
   omega
 ·intro h;obtain⟨p,hp⟩:=List.exists_mem_of_ne_nil r h0;obtain⟨v,hv,_⟩:=h p hp;obtain⟨x,h1,h2⟩:=Ge0 r (λ_ h=>h) ⟨v,hv.toInr⟩ λp hp=>by
   obtain⟨v,hv,h⟩:=h p hp;exact⟨v,hv.toInr,h⟩
  exact⟨x,h1.w,h2⟩
structure Eqv(x v:Pt):Prop where
 e1:x.px*v.pw=v.px*x.pw
 e2:x.py*v.pw=v.py*x.pw
 e3:x.pz*v.pw=v.pz*x.pw
theorem Eqv.rm{x v:Pt}(h:Eqv x v)(p:Pln):rmZ p x*v.pw=rmZ p v*x.pw:=by
 obtain⟨e1,e2,e3⟩:=h;unfold rmZ
 grind
theorem Eqv.inr{r:List Pln}{x v:Pt}(h:Eqv x v)(hw:0<x.pw)(hv:Inr r v):Inr r x:=⟨hw,λp hp=>by
 have:=h.rm p
 have h2:=Qjh (hv.h p hp) (Qjg hw);exact nb2 hv.w (by rw[Int.zero_mul];omega)⟩
end Go.Ev.Ce
