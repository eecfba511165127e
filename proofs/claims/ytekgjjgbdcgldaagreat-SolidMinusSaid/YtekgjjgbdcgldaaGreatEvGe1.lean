/- Own work. -/
import Derived.Test.YtekgjjgbdcgldaaGreatEvOE6
import Derived.Shelf.SlSortCmp.WholeK
set_option linter.all false
def Qja:=@Nat.zero_add
def Qjb:=@List.length_take
def Qjc:=@List.length_append
def Qjd:=@List.mem_cons
def Qje:=@List.mem_cons_of_mem
def Qjf:=@List.mem_cons_self
def Qjg:=@Int.le_of_lt
def Qjh:=@Eq.trans
def Qji:=@Int.mul_nonneg
def Qjj:=@Nat.le_refl
def Qjk:=@List.getElem?_eq_getElem
def Qjl:=@Nat.beq_refl
def Qjm:=@List.length_set
def Qjn:=@List.take_succ_eq_append_getElem
def Qjo:=@Bool.and_true
def Qjp:=@List.pairwise_cons
def Qjq:=@Int.mul_le_mul_of_nonneg_right
def Qjr:=@List.take_append_of_le_length
def Qjs:=@List.eq_nil_of_length_eq_zero
def Qjt:=@Nat.eq_of_beq_eq_true
def Qju:=@Bool.and_eq_true
def Qjv:=@List.length_drop
def Qjw:=@List.getD_eq_getElem?_getD
def Qjx:=@Array.getElem?_append_left
def Qjy:=@Nat.zero_le
def Qjz:=@List.getElem?_map
def Qjaa:=@List.drop_eq_nil_of_le
def Qjab:=@List.findIdx_lt_length_of_exists
def Qjac:=@List.filter_cons
def Qjad:=@Nat.mul_le_mul_right
def Qjae:=@List.append_nil
def Qjaf:=@List.drop_zero
def Qjag:=@Int.mul_pos
def Qjah:=@List.filter_append
def Qjai:=@Nat.lt_irrefl
def Qjaj:=@List.findIdx_cons
def Qjak:=@List.append_assoc
def Qjal:=@Nat.blt_eq
def Qjam:=@List.drop_eq_getElem_cons
def Qjan:=@List.any_eq_true
def Qjao:=@Array.getElem?_eq_none
def Qjap:=@List.take_of_length_le
def Qjaq:=@Nat.le_of_ble_eq_true
def Qjar:=@Array.getElem?_modify
def Qjas:=@List.getElem_set_self
def Qjat:=@List.length_replicate
namespace Go.Ev.Ce
open Go Go.Ev Go.Ev.L Go.Proofs
theorem Ae0(x:List Pln)(y:Pln)(hx:x.length<=1000000):ta0 x y=true:=(Ze6 x y hx).g
theorem Ef6(x:List Pln)(y:Pln)(hx:x.length<=1000000):I8 x y≠[]/\(I8 x y).length<=x.length+1/\∀p∈I8 x y,p=y\/p∈x:=(Ze6 x y hx).p
structure Fc(ph:Nat)(out:List Pln)(m:Nat):Prop where
 h:(ph=0/\out=[])\/ph=1
 l:out.length<=m
theorem Fc.more{ph m m':Nat}{out:List Pln}(h:Fc ph out m)(hm:m<=m'):Fc ph out m':=⟨h.h,Nat.le_trans h.l hm⟩
theorem uf1 (l : List V3) (hl : l.length ≤ 48) (a c : Nat) (ha : a < l.length) (hc : c < a) (h0 : Nat) (out : List Pln) (m : Nat) (hm : m ≤ 900000) (hf : Fc h0 out m) :
  ∃t s,lp (Z4 ⟨l,(a:Int),(c:Int)⟩) ⟨h0,0,out⟩=(t,s)/\(t=s.ph+1/\Fc s.ph s.xa9 (m+100)):=by
 refine Z6 (step:=Z4 ⟨l,(a:Int),(c:Int)⟩) (mk:=λj (x:Nat×List Pln)=>(⟨x.1,(j:Int),x.2⟩:A8)) c (λj x=>Fc x.1 x.2 (m+2*j)/\j<=48) (λt s=>t=s.ph+1/\Fc s.ph s.xa9 (m+100)) (by omega) (λj x hj hx=>?_) (λj x hj hx=>?_) 0 (h0,out) ⟨hf,by omega⟩
 ·obtain⟨h,o⟩:=x;obtain⟨⟨hx,hx2⟩,_⟩:=hx;have hn:=n8 hj (show c<=4611686018427387904 by omega)
  have hh:∀p,na9 p l=true:=λp=>ze9 p l (by omega)
  have hg1:∀y,ta0 o y=true:=λy=>Ae0 o y (by simp only at hx2;omega)
  have hp1:∀y,I8 o y≠[]/\(I8 o y).length<=o.length+1:=λy=>by have:=Ef6 o y (by simp only at hx2;omega);exact⟨this.1,this.2.1⟩
  have hg2:∀y z,ta0 (I8 o y) z=true:=λy z=>Ae0 _ z (by have:=(hp1 y).2;simp only at hx2;omega)
  have hp2:∀y z,(I8 (I8 o y) z).length<=o.length+2:=λy z=>by
   have:=(Ef6 (I8 o y) z (by have:=(hp1 y).2;simp only at hx2;omega)).2.1
   have:=(hp1 y).2
   omega
  simp only at hx hx2
  have stay:Fc h o (m+2*(j+1))/\j+1<=48:=⟨⟨hx,by omega⟩,by omega⟩
  have put1:∀y,Fc 1 (I8 o y) (m+2*(j+1))/\j+1<=48:=λy=>⟨⟨.inr rfl,by have:=(hp1 y).2;omega⟩,by omega⟩
  have put2:∀y z,Fc 1 (I8 (I8 o y) z) (m+2*(j+1))/\j+1<=48:=λy z=>⟨⟨.inr rfl,by have:=hp2 y z;omega⟩,by omega⟩
  rcases hx with⟨rfl,rfl⟩|rfl
  ·show Nx (K2 Stp.next Stp.exit Stp.fail _ _) _ _;simp only[K2,Ya7,Int.toNat_natCast,i5,o5,hh,hg1,hg2,hn];rw[btD (g7 hj),bt (f0 ha),bt (f0 (show c<l.length by omega)),bt (f0 (show j<l.length by omega))]
   simp only[f9];refine Nx.sl (λ_=>.nx ⟨(0,[]),rfl,stay⟩) λ_=>Nx.sl (λ_=>Nx.sl (λ_=>.nx ⟨(1,_),rfl,put2 _ _⟩) λ_=>.nx ⟨(1,_),rfl,put1 _⟩) λ_=>Nx.sl (λ_=>.nx ⟨(1,_),rfl,put1 _⟩) λ_=>.nx ⟨(0,[]),rfl,stay⟩
  ·show Nx (K3 Stp.next Stp.exit Stp.fail _ _) _ _;simp only[K3,Ya7,Int.toNat_natCast,i5,o5,hh,hg1,hg2,hn];rw[btD (g7 hj),bt (f0 ha),bt (f0 (show c<l.length by omega)),bt (f0 (show j<l.length by omega))]
   simp only[f9];refine Nx.sl (λ_=>.nx ⟨(1,o),rfl,stay⟩) λ_=>Nx.sl (λ_=>Nx.sl (λ_=>.nx ⟨(1,_),rfl,put2 _ _⟩) λ_=>.nx ⟨(1,_),rfl,put1 _⟩) λ_=>Nx.sl (λ_=>.nx ⟨(1,_),rfl,put1 _⟩) λ_=>.nx ⟨(1,o),rfl,stay⟩
 ·obtain⟨h,o⟩:=x;obtain⟨⟨hx,hx2⟩,h48⟩:=hx
  simp only at hx hx2
  rcases hx with⟨rfl,rfl⟩|rfl
  ·refine⟨1,?_,rfl,⟨.inl ⟨rfl,rfl⟩,by show 0<=_;omega⟩⟩
   show K2 Stp.next Stp.exit Stp.fail _ _=_;simp only[K2];rw[bfD (by omega)]
  ·refine⟨2,?_,rfl,⟨.inr rfl,by show o.length<=_;omega⟩⟩
   show K3 Stp.next Stp.exit Stp.fail _ _=_;simp only[K3];rw[bfD (by omega)]
theorem uf2 (l : List V3) (hl : l.length ≤ 48) (a : Nat) (ha : a < l.length) (h0 : Nat) (out : List Pln) (m : Nat) (hm : m ≤ 800000) (hf : Fc h0 out m) :
  ∃t s,lp (Z5 ⟨(a:Int)⟩) ⟨h0,l,0,out⟩=(t,s)/\(t=s.ph+1/\Fc s.ph s.xa9 (m+5000)/\s.g8=l):=by
 refine Z6 (step:=Z5 ⟨(a:Int)⟩) (mk:=λj (x:Nat×List Pln)=>(⟨x.1,l,(j:Int),x.2⟩:A9)) a (λj x=>Fc x.1 x.2 (m+100*j)/\j<=48) (λt s=>t=s.ph+1/\Fc s.ph s.xa9 (m+5000)/\s.g8=l) (by omega) (λj x hj hx=>?_) (λj x hj hx=>?_) 0 (h0,out) ⟨hf,by omega⟩
 ·obtain⟨h,o⟩:=x;obtain⟨hx,_⟩:=hx;have hn:=n8 hj (show a<=4611686018427387904 by omega)
  simp only at hx
  obtain⟨t,s,e1,e2,e3⟩:=uf1 l hl a j ha hj h o (m+100*j) (by omega) hx
  obtain⟨s1,s2,s3⟩:=s
  simp only at e2 e3
  have go:Fc s1 s3 (m+100*(j+1))/\j+1<=48:=⟨e3.more (by omega),by omega⟩
  rcases hx.h with⟨rfl,rfl⟩|rfl
  ·show Nx (K4 Stp.next Stp.exit Stp.fail _ _) _ _;simp only[K4,i5,i8,hn];rw[btD (g7 hj),e1,e2]
   rcases e3.h with⟨rfl,rfl⟩|rfl
   ·exact .nx ⟨(0,[]),rfl,go⟩
   ·exact .nx ⟨(1,s3),rfl,go⟩
  ·show Nx (K5 Stp.next Stp.exit Stp.fail _ _) _ _;simp only[K5,i5,i8,hn];rw[btD (g7 hj),e1,e2]
   rcases e3.h with⟨rfl,rfl⟩|rfl
   ·exact .nx ⟨(0,[]),rfl,go⟩
   ·exact .nx ⟨(1,s3),rfl,go⟩
 ·obtain⟨h,o⟩:=x;obtain⟨hx,h48⟩:=hx
  simp only at hx
  have h2:=hx.more (show m+100*j<=m+5000 by omega)
  rcases hx.h with⟨rfl,rfl⟩|rfl
  ·refine⟨1,?_,rfl,h2,rfl⟩;show K4 Stp.next Stp.exit Stp.fail _ _=_;simp only[K4];rw[bfD (by omega)]
  ·refine⟨2,?_,rfl,h2,rfl⟩;show K5 Stp.next Stp.exit Stp.fail _ _=_;simp only[K5];rw[bfD (by omega)]
theorem uf3 (l : List V3) (hl : l.length ≤ 48) :
  ∃t s,lp (za7 ⟨⟩) ⟨0,l,0,[]⟩=(t,s)/\(t=s.ph+1/\Fc s.ph s.xa9 250000):=by
 refine Z6 (step:=za7 ⟨⟩) (mk:=λj (x:Nat×List Pln)=>(⟨x.1,l,(j:Int),x.2⟩:C0)) l.length (λj x=>Fc x.1 x.2 (5000*j)/\j<=48) (λt s=>t=s.ph+1/\Fc s.ph s.xa9 250000) (by omega) (λj x hj hx=>?_) (λj x hj hx=>?_) 0 (0,[]) ⟨⟨.inl ⟨rfl,rfl⟩,Qjj _⟩,by omega⟩
 ·obtain⟨h,o⟩:=x;obtain⟨hx,_⟩:=hx;have hn:=n8 hj (show l.length<=4611686018427387904 by omega)
  simp only at hx
  obtain⟨t,s,e1,e2,e3,e4⟩:=uf2 l hl j hj h o (5000*j) (by omega) hx
  obtain⟨s1,s2,s3,s4⟩:=s
  simp only at e2 e3 e4
  subst e4;have go:Fc s1 s4 (5000*(j+1))/\j+1<=48:=⟨e3.more (by omega),by omega⟩
  rcases hx.h with⟨rfl,rfl⟩|rfl
  ·show Nx (K6 Stp.next Stp.exit Stp.fail ⟨⟩ _) _ _;simp only[K6,i5,i8,hn];rw[btD (g7 hj),e1,e2]
   rcases e3.h with⟨rfl,rfl⟩|rfl
   ·exact .nx ⟨(0,[]),rfl,go⟩
   ·exact .nx ⟨(1,s4),rfl,go⟩
  ·show Nx (K7 Stp.next Stp.exit Stp.fail ⟨⟩ _) _ _;simp only[K7,i5,i8,hn];rw[btD (g7 hj),e1,e2]
   rcases e3.h with⟨rfl,rfl⟩|rfl
   ·exact .nx ⟨(0,[]),rfl,go⟩
   ·exact .nx ⟨(1,s4),rfl,go⟩
 ·obtain⟨h,o⟩:=x;obtain⟨hx,h48⟩:=hx
  simp only at hx
  have h2:=hx.more (show 5000*j<=250000 by omega)
  rcases hx.h with⟨rfl,rfl⟩|rfl
  ·refine⟨1,?_,rfl,h2⟩;show K6 Stp.next Stp.exit Stp.fail ⟨⟩ _=_;simp only[K6];rw[bfD (by omega)]
  ·refine⟨2,?_,rfl,h2⟩;show K7 Stp.next Stp.exit Stp.fail ⟨⟩ _=_;simp only[K7];rw[bfD (by omega)]
theorem Ze7(l:List Pln)(n:Int):(two (r1L tP) r1I).rd (.tup [eL tP l,i n],[])=some (l,n):=by
 have h:(r1L tP).rd [] (eL tP l)=some l:=by
  show Bool.rec (motive:=λ_=>Option (List Pln)) none (some (rt tP l)) (Bool.and (Nat.beq tP.es tP.es) (okE tP l))=_
  rw[i5,o5,Qjl];rfl
 simp only[two,h];rfl
theorem Ze8(l:List V3)(hl:l.length<=48):Rd (two (r1L tP) r1I) (La6 l) (λr=>r.1.length<=250000):=by
 obtain⟨t,s,e1,e2,e3⟩:=uf3 l hl;unfold La6;simp only[i5,i8,o5,Gd3 l (show l.length<=1000000000 by omega),f9]
 refine Rd.sl (λ_=>⟨_,([],pb6 l),rfl,rfl,Qjy _⟩) λ_=>?_
 rw[e1,e2];obtain⟨s1,s2,s3,s4⟩:=s
 simp only at e3 ⊢
 rcases e3.h with⟨rfl,rfl⟩|rfl
 ·exact⟨_,([],0),rfl,rfl,Qjy _⟩
 ·exact⟨_,(s4,0),rfl,Ze7 s4 0,e3.l⟩
theorem uf4(l:List V3)(hl:l.length<=48):Jb1 l=true:=(Ze8 l hl).g
def phV(out:List V3):Nat:=match out with
 |[]=>0
 |_::_=>1
theorem uf5(out:List V3)(x:V3):phV (out++[x])=1:=by cases out<;>rfl
theorem ge7(l:List V3)(x1 x2 x3:Int):app (bL tV l) [[i x1,i x2,i x3]]=bL tV (l++[⟨x1,x2,x3⟩]):=Ra1 tV l [⟨x1,x2,x3⟩]
theorem Xf1{l:List V3}{m:Nat}(h:m<l.length):(((Nat.blt (0+m) (len (bL tV l)))&&(Nat.ble (0+3) (len (l5 (bL tV l) (0+m)))))&&(ra7 [CK.int .i64,CK.int .i64,CK.int .i64] (l0 (l5 (bL tV l) (0+m)) 0)))=true:=by
 rw[Qja,V1 tV h,S6,show Nat.blt m l.length=true from by rw[Qjal];exact h]
 rfl
theorem Xf2{l:List V3}{m:Nat}(h:m<l.length):(((Nat.blt (0+m) (len (bL tV l)))&&(Nat.ble (2+1) (len (l5 (bL tV l) (0+m)))))&&(ra7 [CK.int .i64] (l0 (l5 (bL tV l) (0+m)) 2)))=true:=by
 rw[Qja,V1 tV h,S6,show Nat.blt m l.length=true from by rw[Qjal];exact h]
 rfl
theorem Xf3{n:Nat}{l:List V3}(hn:l.length=n)(h:n<=1000000000):(Nat.beq n (len (bL tV l))&&Nat.ble ((n+1)*24) room)=true:=by
 subst hn;rw[S6,Qjl,Bool.true_and,Nat.ble_eq];unfold room;omega
theorem uf6 (x : List Int) (N : Nat) (h4 : 4 ≤ N) (h8 : N ≤ 8) (j0 : Int) (hj0 : 0 ≤ j0 ∧ j0 ≤ 10) :
  ∃idx out,lp (Va8 ⟨(N:Int)⟩) ⟨0,0,x,j0,0,[]⟩=(2,⟨1,(N:Int),x,idx,N,bL tV out⟩)/\out.length=N:=by
 have key:=Z6 (step:=Va8 ⟨(N:Int)⟩) (mk:=λj (a:Int×List V3)=>(⟨phV a.2,(j:Int),x,a.1,a.2.length,bL tV a.2⟩:E2)) N
  (λj a=>a.2.length=j/\0<=a.1/\a.1<=10+4*j/\j<=N) (λt s=>t=2/\∃idx out,s=⟨1,(N:Int),x,idx,N,bL tV out⟩/\out.length=N) (by omega) (λj a hj ha=>?_) (λj a hj ha=>?_) 0 (j0,[]) ⟨rfl,hj0.1,by omega,by omega⟩
 ·obtain⟨t,s,e1,rfl,idx,out,e2,e3⟩:=key;exact⟨idx,out,by rw[<- e2];exact e1,e3⟩
 ·obtain⟨at0,out⟩:=a;obtain⟨ho,ha1,ha2,_⟩:=ha
  simp only at ho ha1 ha2
  have hn:=n8 hj (show N<=4611686018427387904 by omega)
  obtain⟨v1,j1,d1,_,_,c1,b1⟩:=ya3 17 x at0 ha1 (by omega) (by omega) (by omega)
  obtain⟨v2,j2,d2,_,_,c2,b2⟩:=ya3 17 x j1 (by omega) (by omega) (by omega) (by omega)
  obtain⟨v3,j3,d3,_,_,c3,b3⟩:=ya3 17 x j2 (by omega) (by omega) (by omega) (by omega)
  obtain⟨v4,j4,d4,_,_,c4,b4⟩:=ya3 6 x j3 (by omega) (by omega) (by omega) (by omega)
  have leaf : ∀ (E : Nat → Prop) (x1 x2 x3 : Int), Nx (.next (⟨1, ((j + 1 : Nat) : Int), x, j4, j + 1, bL tV (out ++ [⟨x1, x2, x3⟩])⟩ : E2)) E
    (λs=>∃a':Int×List V3,s=⟨phV a'.2,((j+1:Nat):Int),x,a'.1,a'.2.length,bL tV a'.2⟩/\a'.2.length=j+1/\0<=a'.1/\a'.1<=10+4*((j+1:Nat):Int)/\j+1<=N):=λE x1 x2 x3=>by
   have hl:(out++[(⟨x1,x2,x3⟩:V3)]).length=j+1:=by simp[ho]
   exact .nx ⟨(j4,out++[⟨x1,x2,x3⟩]),by simp only[uf5,hl],hl,by show 0<=j4;omega,by show j4<=_;omega,by omega⟩
  cases out with
  |nil =>
   have hj0':j=0:=by simpa using ho.symm
   subst hj0';show Nx (za8 Stp.next Stp.exit Stp.fail _ _) _ _;simp only[za8,i5,i8,d1,d2,d3,d4,hn];rw[btD (g7 hj)];have f1:decide (((0:Nat):Int)>1)=false:=rfl;have f2:decide (((0:Nat):Int)>0)=false:=rfl;have f3:decide (((0:Nat):Int)>2)=false:=rfl;have lf:∀(E:Nat->Prop) (x1 x2 x3:Int),Nx (.next (⟨1,((0+1:Nat):Int),x,j4,1,[[i x1,i x2,i x3]]⟩:E2)) E _:=leaf;simp only[f1,f2,f3,G0,Qjl,Qjo,f9];refine Nx.sl (λ_=>?_) (λ_=>?_)<;>refine Nx.sl (λ_=>?_) (λ_=>?_)
   all_goals first
    |exact lf _ _ _ _
    |(refine Nx.sl (λ_=>?_) (λ_=>?_)<;>exact lf _ _ _ _)
  |cons o os =>
   have h1:1<=j:=by simp only[List.length_cons] at ho;omega
   generalize hO:o::os=O at *
   have hph:phV O=1:=by subst hO;rfl
   have w1:W ((j:Int)-1)=((j-1:Nat):Int):=by rw[ka2 (by omega) (by omega)];omega
   have i1:inB ((j-1:Nat):Int) j=true:=f0 (by omega)
   have r1:=Xf1 (l:=O) (m:=j-1) (by omega)
   have r1':=Xf2 (l:=O) (m:=j-1) (by omega)
   have rr:=Xf3 ho (by omega)
   have f2:∀{inst:Decidable ((j:Int)>0)},@decide ((j:Int)>0) inst=true:=decide_eq_true (by omega)
   show Nx (sel (Nat.beq (phV O) 1) (P5 Stp.next Stp.exit Stp.fail _ _) _) _ _;rw[hph];show Nx (P5 Stp.next Stp.exit Stp.fail _ _) _ _;by_cases h2:2<=j
   ·have w2:W ((j:Int)-2)=((j-2:Nat):Int):=by rw[ka2 (by omega) (by omega)];omega
    have i2:inB ((j-2:Nat):Int) j=true:=f0 (by omega)
    have r2:=Xf1 (l:=O) (m:=j-2) (by omega)
    simp only[P5,i5,i8,d1,d2,d3,d4,hn,ho,w1,w2,i1,i2,Int.toNat_natCast,r1,r1',r2,rr,ge7];rw[btD (g7 hj)];simp only[Qjl,Qjo,f9]
    repeat' (first | exact leaf _ _ _ _ | refine Nx.sl (λ_=>?_) (λ_=>?_))
   ·have hj1:j=1:=by omega
    subst hj1;simp only[P5,i5,i8,d1,d2,d3,d4,hn,ho,w1,i1,Int.toNat_natCast,r1,r1',rr,ge7];have f1:decide (((1:Nat):Int)>1)=false:=rfl;rw[btD (g7 hj)];simp only[f1,G0,Qjl,Qjo,f9]
    repeat' (first | exact leaf _ _ _ _ | refine Nx.sl (λ_=>?_) (λ_=>?_))
 ·obtain⟨at0,out⟩:=a;obtain⟨ho,ha1,ha2,hjN⟩:=ha
  simp only at ho ha1 ha2
  have hj':j=N:=by omega
  subst hj';cases out with
  |nil=>simp only[List.length_nil] at ho;omega
  |cons o os =>
   refine⟨2,?_,rfl,at0,o::os,by rw[ho];rfl,ho⟩
   show P5 Stp.next Stp.exit Stp.fail _ _=_;simp only[P5];rw[bfD (by omega)]
theorem Ze9{l:List V3}{n:Nat}{r:List (List b7)}{P:List V3->Prop}(hn:n=l.length)(hr:r=bL tV l)(h:P l):Rd (one (r1L tV)) (some (.sl 0 0 n 0,[⟨27,3,r,true,false,0⟩])) P:=by
 subst hn hr;refine⟨_,l,rfl,?_,h⟩;show Bool.rec (motive:=λ_=>Option (List V3)) none (some (slR tV (bL tV l) 0 l.length)) (Bool.and true (okS tV (bL tV l) 0 l.length))=_
 rw[fc2,fc3];rfl
theorem Gd4(x:List Int):Rd (one (r1L tV)) (db5 x) (λr=>4<=r.length/\r.length<=8):=by
 obtain⟨v,j,e1,a1,b1,c1,d1⟩:=ya3 5 x 0 (by omega) (by omega) (by omega) (by omega)
 have hN:W (4+v)=(((4+v).toNat:Nat):Int):=by rw[ka2 (by omega) (by omega)];omega
 obtain⟨idx,out,e2,e3⟩:=uf6 x (4+v).toNat (by omega) (by omega) j (by omega)
 unfold db5;simp only[i5,i8,e1,hN,e2];have h4:4<=(4+v).toNat:=by omega
 have h8:(4+v).toNat<=8:=by omega
 generalize (4+v).toNat=N at *
 have s1:lsL tV N (λk=>l5 (bL tV out) (0+k))=out:=by rw[<- e3];exact fc2 tV out
 have s2:okL tV N (λk=>l5 (bL tV out) (0+k))=true:=by rw[<- e3];exact fc3 tV out
 have gf:jb3 out=true:=se3 out (by omega)
 rw[s1,s2,gf];simp only[Qjl,Qjo,f9,show Nat.beq 2 1=false from rfl,G0]
 refine Rd.sl (λ_=>?_) λ_=>Ze9 e3.symm rfl ⟨by omega,by omega⟩
 have i0:inB 0 N=true:=f0 (j:=0) (by omega)
 have i1:inB 1 N=true:=f0 (j:=1) (by omega)
 have i2:inB 2 N=true:=f0 (j:=2) (by omega)
 have i3:inB 3 N=true:=f0 (j:=3) (by omega)
 have sp:∀(v:V3) (x1 x2 x3:Int),ea2 (tV.row v) 0 [i x1,i x2,i x3]=tV.row ⟨x1,x2,x3⟩:=λ_ _ _ _=>rfl
 have rl:∀v:V3,Nat.ble (0+3) (len (tV.row v))=true:=λ_=>rfl
 have ck:∀v:V3,ra7 [CK.int .i64,CK.int .i64,CK.int .i64] (l0 (tV.row v) 0)=true:=λ_=>rfl
 have gr:∀(l:List V3) (k:Nat),l.length=N->k<4->l5 (bL tV l) k=tV.row (gL tV l k):=λl k hl hk=>V1 tV (by omega)
 have bl:∀(l:List V3) (k:Nat),l.length=N->k<4->Nat.blt k (len (bL tV l))=true:=λl k hl hk=>by rw[S6,Qjal];omega
 have ls:∀(l:List V3) (k:Nat) (v:V3),l.length=N->(l.set k v).length=N:=λl k v hl=>by rw[Qjm];exact hl
 rw[gr out 0 e3 (by omega),gr out 1 e3 (by omega)]
 simp only[sp,fc4];rw[gr _ 2 (ls out 1 _ e3) (by omega)]
 simp only[sp,fc4];rw[gr _ 3 (ls _ 2 _ (ls out 1 _ e3)) (by omega)]
 simp only[sp,fc4,rl,ck,i0,i1,i2,i3,bl out 0 e3 (by omega),bl out 1 e3 (by omega),bl _ 2 (ls out 1 _ e3) (by omega),bl _ 3 (ls _ 2 _ (ls out 1 _ e3)) (by omega),Qjo,f9]
 exact Ze9 (by simp only[Qjm];omega) rfl (by simp only[Qjm];omega)
theorem af0(x:List Int):Wb4 x=true:=(Gd4 x).g
theorem af1(x:List Int):4<=(ma0 x).length/\(ma0 x).length<=8:=(Gd4 x).p
theorem af2{l:List Pln}{P:List Pln->Prop}(h:P l):Rd (one (r1L tP)) (some (eL tP l,[])) P:=⟨_,l,rfl,sc8 tP l,h⟩
theorem cd4{l:List Pln}{k:Nat}(h:k<l.length):ldR tP (bL tP l) (0+k)=true:=by rw[Qja];exact pe2 tP h
theorem Hc6{l:List Pln}{k:Nat}(h:k<l.length):rdR tP (bL tP l) (0+k)=gL tP l k:=by rw[Qja];exact pe1 tP h
theorem af3{α:Type}(t:Ty α)(k:Nat)(l:List α):(one (r1L t)).rd (.sl 0 0 l.length 0,[⟨k,t.es,bL t l,true,false,0⟩])=some l:=by
 show Bool.rec (motive:=λ_=>Option (List α)) none (some (slR t (bL t l) 0 l.length)) (Bool.and (Nat.beq t.es t.es) (okS t (bL t l) 0 l.length))=_
 rw[fc2,fc3,Qjl];rfl
theorem af4{l:List Pln}{n:Nat}{r:List (List b7)}{P:List Pln->Prop}(hn:n<=l.length)(hr:r=bL tP l)(h:P (l.take n)):Rd (one (r1L tP)) (some (.sl 0 0 n 0,[⟨73,4,r,true,false,0⟩])) P:=by
 subst hr;have e1:slR tP (bL tP l) 0 n=l.take n:=fc1 tP (by rw[Qjb];omega) λk hk=>by
  rw[Qja,V1 tP (by omega)]
  congr 1;simp[gL,Qjw,List.getElem?_take,hk]
 have e2:okS tP (bL tP l) 0 n=true:=ab5 tP (f:=λk=>gL tP l k) λk hk=>by rw[Qja,V1 tP (by omega)]
 refine⟨_,l.take n,rfl,?_,h⟩;show Bool.rec (motive:=λ_=>Option (List Pln)) none (some (slR tP (bL tP l) 0 n)) (Bool.and true (okS tP (bL tP l) 0 n))=_
 rw[e1,e2];rfl
set_option maxRecDepth 100000
structure lb7 where
 (ia5 ia6 ia7 rb0:Int)
 i6:List Pt
noncomputable def kc2:List (Nat×Sum):=[(153,Ib9)]
theorem Yc8:i7 prog G kc2:=⟨Vb0,trivial⟩
structure Fa3 where
 kf0:List Pt
 is8:Int
 i6:List Pt
 (W9 X0 X1 da5:Int)
structure U3 where
 (is4 is9:Int)
noncomputable def Rb2(p:Fa3)(s:U3):St:=⟨.unk::.unk::.ptr 1 0 0 0::.unk::i s.is4::.unk::.unk::eL tX p.kf0::i p.is8::i s.is9::ra 12 [],[⟨0,1,[[eL tX p.i6]],true,false,0⟩,⟨0,4,[[i p.W9,i p.X0,i p.X1,i p.da5]],true,false,0⟩]⟩
noncomputable def ua8{α:Type}(k:U3->α)(e:Nat->α)(z:α)(p:Fa3)(s:U3):α:=let t1:=(Ba2 (⟨(⟨p.W9,p.X0,p.X1⟩:V3),p.da5⟩:Pln) (gL tX p.kf0 s.is9.toNat));(sl (decide (s.is9<p.is8)) (sl (inB s.is9 (List.length p.kf0)) (sl (t1==0) (k ⟨W (s.is4+1),W (s.is9+1)⟩) (k ⟨s.is4,W (s.is9+1)⟩)) z) (e 1))
noncomputable def za9(p:Fa3)(s:U3):Stp U3:=ua8 .next .exit .fail p s
noncomputable def tb3:Lo Fa3 U3:=⟨En kc2,1,Bf8,[1,1,0,1,4,4],[2,4,7,8,9],.p,[⟨sUq::sUq::sPq 1::sUq::sIq::sUq::sUq::sLq tX::sIq::sIq::ru2 12 [],[⟨0,1,true,some [[.c 4 (nL tX)]]⟩,⟨0,4,true,some [kLq 4]⟩],λa H=>(⟨aLq tX a 7,aIq a 8,hLq tX H 0 0 0,hIq H 1 0 0,hIq H 1 0 1,hIq H 1 0 2,hIq H 1 0 3⟩,⟨aIq a 4,aIq a 9⟩)⟩],za9,[(some 0,λp s=>upq (Rb2 p s) [(10,b (decide (s.is9<p.is8)))])],Rb2⟩
theorem Pc1:tb3.Ok:=Lo.ok [] (by kernel_rfl) .nil rfl (.cons (λa H=>by kernel_rfl) .nil) λp s=>(.of @ua8 (λF _ _ _ _ _=>by unfold ua8;(repeat' apply l6 (f:=F))<;>rfl) (by kernel_rfl))
structure Ga8 where
 alt:Nat
 bs0:Bool
 i6:List Pt
noncomputable def Ga9{α:Type}(kk:Ga8->α)(x:lb7):α:=let t1:=(lp (za9 (⟨rt tX x.i6,(↑(List.length x.i6):Int),rt tX x.i6,x.ia5,x.ia6,x.ia7,x.rb0⟩:Fa3)) (⟨0,0⟩:U3));(sl ((cnE tX x.i6)&&((cnE tX x.i6)&&true)) (sl (Nat.beq t1.1 1) (kk ⟨1,decide (t1.2.is4<3),rt tX x.i6⟩) (kk ⟨0,false,[]⟩)) (kk ⟨0,false,[]⟩))
noncomputable def wa9(x:lb7):Ga8:=Ga9 (λr=>r) x
noncomputable def Db2(x:lb7)(r:Ga8):DT (b7×List b8):=(.ite (Nat.beq r.alt 1) (.ret (b r.bs0,[⟨0,1,[[eL tX r.i6]],true,false,0⟩])) .fail)
theorem yd7{α β:Type}(F:α->β)(kk:Ga8->α)(x:lb7):F (Ga9 kk x)=Ga9 (λr=>F (kk r)) x:=by unfold Ga9;(repeat' apply l6 (f:=F))<;>rfl
noncomputable def Nb6:Sum:=Ra9 ⟨[.agg (kLq 4),sPq 0],[⟨0,1,true,some [[.c 4 (nL tX)]]⟩],λa H=>(⟨cIq a 0 0,cIq a 0 1,cIq a 0 2,cIq a 0 3,hLq tX H 0 0 0⟩,())⟩ (λx=>Db2 x (wa9 x))
theorem kc3:g9 prog G 152 Nb6:=J4 (enc:=λx=>⟨[.agg [i x.ia5,i x.ia6,i x.ia7,i x.rb0],.ptr 0 0 0 0],[⟨0,1,[[eL tX x.i6]],true,false,0⟩]⟩) (λa H=>by kernel_rfl) (bd gg1 Yc8) λx=>wa1 (.s .p (.s .p (.s (.s .p (.b (.u tb3.ls))) .p))) [tb3.pr] (by kernel_rfl) (.cons Pc1 .nil) (Qjh (b:=Ga9 (λr=>(Db2 x r).run) x) (by kernel_rfl) (yd7 (λr=>(Db2 x r).run) (λr=>r) x).symm)
structure ca6 where
 ns0:Nat
 eh0:List (List b7)
 B9:List Pt
noncomputable def La8:List (Nat×Sum):=[(152,Nb6)]
theorem wb8:i7 prog G La8:=⟨kc3,trivial⟩
structure M9 where
 ns0:Nat
 is7:Int
 eh0:List (List b7)
structure q7 where
 is8:Int
 B9:List Pt
noncomputable def Fa4(p:M9)(s:q7):St:=⟨.sl 0 0 p.ns0 0::.fn 152 [.ptr 1 0 0 0]::ra 5 (i p.is7::i s.is8::ra 10 []),[⟨73,4,p.eh0,true,false,0⟩,⟨0,1,[[eL tX s.B9]],true,false,0⟩]⟩
noncomputable def H7{α:Type}(k:q7->α)(e:Nat->α)(z:α)(p:M9)(s:q7):α:=let t1:=(wa9 ⟨(rdR tP p.eh0 (0+s.is8.toNat)).n.x,(rdR tP p.eh0 (0+s.is8.toNat)).n.y,(rdR tP p.eh0 (0+s.is8.toNat)).n.z,(rdR tP p.eh0 (0+s.is8.toNat)).b,rt tX s.B9⟩);(sl (decide (s.is8<p.is7)) (sl (inB s.is8 p.ns0) (sl (ldR tP p.eh0 (0+s.is8.toNat)) (sl ((cnE tX s.B9)&&true) (sl (Nat.beq t1.alt 1) (sl t1.bs0 (e 1) (k ⟨W (s.is8+1),t1.i6⟩)) z) z) z) z) (e 2))
noncomputable def K8(p:M9)(s:q7):Stp q7:=H7 .next .exit .fail p s
noncomputable def ma2:Lo M9 q7:=⟨En La8,2,be8,[1,0,1,4,4],[0,1,7,8],.p,[⟨.s (.o (.sl 0 0 (some 0) none))::.fn 152 [.o (.ptr 1 0 0 0)]::ru2 5 (sIq::sIq::ru2 10 []),[⟨73,4,true,none⟩,⟨0,1,true,some [[.c 4 (nL tX)]]⟩],λa H=>(⟨slN (slT a 0),aIq a 7,elT H 0⟩,⟨aIq a 8,hLq tX H 1 0 0⟩)⟩],K8,[(none,λp s=>let t1:=(wa9 ⟨(rdR tP p.eh0 (0+s.is8.toNat)).n.x,(rdR tP p.eh0 (0+s.is8.toNat)).n.y,(rdR tP p.eh0 (0+s.is8.toNat)).n.z,(rdR tP p.eh0 (0+s.is8.toNat)).b,rt tX s.B9⟩);⟨[i s.is8],[⟨73,4,p.eh0,true,false,0⟩,⟨0,1,[[eL tX t1.i6]],true,false,0⟩]⟩),(some 0,λp s=>upq (Fa4 p s) [(9,b (decide (s.is8<p.is7)))])],Fa4⟩
theorem tb4:ma2.Ok:=Lo.ok [] (by kernel_rfl) .nil rfl (.cons (λa H=>by kernel_rfl) .nil) λp s=>(.of @H7 (λF _ _ _ _ _=>by unfold H7;(repeat' apply l6 (f:=F))<;>rfl) (by kernel_rfl))
structure ca7 where
 alt:Nat
 is0:Int
 B9:List Pt
noncomputable def I9{α:Type}(kk:ca7->α)(x:ca6):α:=let t1:=(lp (K8 (⟨x.ns0,(↑x.ns0:Int),x.eh0⟩:M9)) (⟨0,rt tX x.B9⟩:q7));let t2:=(wa9 ⟨(rdR tP x.eh0 (0+t1.2.is8.toNat)).n.x,(rdR tP x.eh0 (0+t1.2.is8.toNat)).n.y,(rdR tP x.eh0 (0+t1.2.is8.toNat)).n.z,(rdR tP x.eh0 (0+t1.2.is8.toNat)).b,rt tX t1.2.B9⟩);(sl ((cnE tX x.B9)&&true) (sl (Nat.beq t1.1 1) (kk ⟨1,t1.2.is8,t2.i6⟩) (sl (Nat.beq t1.1 2) (kk ⟨1,-1,t1.2.B9⟩) (kk ⟨0,0,[]⟩))) (kk ⟨0,0,[]⟩))
noncomputable def ca8(x:ca6):ca7:=I9 (λr=>r) x
noncomputable def qa0(x:ca6)(r:ca7):DT (b7×List b8):=(.ite (Nat.beq r.alt 1) (.ret (i r.is0,[⟨73,4,x.eh0,true,false,0⟩,⟨0,1,[[eL tX r.B9]],true,false,0⟩])) .fail)
theorem Gb3{α β:Type}(F:α->β)(kk:ca7->α)(x:ca6):F (I9 kk x)=I9 (λr=>F (kk r)) x:=by unfold I9;(repeat' apply l6 (f:=F))<;>rfl
noncomputable def Qa4:Sum:=Ra9 ⟨[.s (.o (.sl 0 0 (some 0) none)),.fn 152 [.o (.ptr 1 0 0 0)]],[⟨73,4,true,none⟩,⟨0,1,true,some [[.c 4 (nL tX)]]⟩],λa H=>(⟨slN (slT a 0),elT H 0,hLq tX H 1 0 0⟩,())⟩ (λx=>qa0 x (ca8 x))
theorem Db3:g9 prog G 139 Qa4:=J4 (enc:=λx=>⟨[.sl 0 0 x.ns0 0,.fn 152 [.ptr 1 0 0 0]],[⟨73,4,x.eh0,true,false,0⟩,⟨0,1,[[eL tX x.B9]],true,false,0⟩]⟩) (λa H=>by kernel_rfl) (bd rf7 wb8) λx=>wa1 (.s .p (.s (.s .p (.b (.u ma2.ls))) .p)) [ma2.pr] (by kernel_rfl) (.cons tb4 .nil) (Qjh (b:=I9 (λr=>(qa0 x r).run) x) (by kernel_rfl) (Gb3 (λr=>(qa0 x r).run) (λr=>r) x).symm)
structure ca9 where
 ns0:Nat
 eh0:List (List b7)
 B9:List Pt
noncomputable def La9:List (Nat×Sum):=[(139,Qa4),(152,Nb6)]
theorem wb9:i7 prog G La9:=⟨Db3,kc3,trivial⟩
structure N0 where
 ns0:Nat
structure u9 where
 (is5 is6:Int)
 eh0:List (List b7)
 B9:List Pt
noncomputable def Fa5(p:N0)(s:u9):St:=⟨.sl 0 0 p.ns0 0::.fn 152 [.ptr 1 0 0 0]::ra 3 (i s.is5::i s.is6::ra 35 []),[⟨73,4,s.eh0,true,false,0⟩,⟨0,1,[[eL tX s.B9]],true,false,0⟩]⟩
noncomputable def H8{α:Type}(k:u9->α)(e:Nat->α)(z:α)(p:N0)(s:u9):α:=let t1:=(wa9 ⟨(rdR tP s.eh0 (0+s.is6.toNat)).n.x,(rdR tP s.eh0 (0+s.is6.toNat)).n.y,(rdR tP s.eh0 (0+s.is6.toNat)).n.z,(rdR tP s.eh0 (0+s.is6.toNat)).b,rt tX s.B9⟩);(sl (decide (s.is6<(↑p.ns0:Int))) (sl (inB s.is6 p.ns0) (sl (ldR tP s.eh0 (0+s.is6.toNat)) (sl ((cnE tX s.B9)&&true) (sl (Nat.beq t1.alt 1) (sl (!t1.bs0) (sl (inB s.is5 p.ns0) (sl ((Nat.blt (0+s.is5.toNat) (len s.eh0))&&(Nat.ble (0+4) (len (l5 s.eh0 (0+s.is5.toNat))))) (k ⟨W (s.is5+1),W (s.is6+1),setAt s.eh0 (0+s.is5.toNat) (ea2 (l5 s.eh0 (0+s.is5.toNat)) 0 [i (rdR tP s.eh0 (0+s.is6.toNat)).n.x,i (rdR tP s.eh0 (0+s.is6.toNat)).n.y,i (rdR tP s.eh0 (0+s.is6.toNat)).n.z,i (rdR tP s.eh0 (0+s.is6.toNat)).b]),t1.i6⟩) z) z) (k ⟨s.is5,W (s.is6+1),s.eh0,t1.i6⟩)) z) z) z) z) (e 1))
noncomputable def D9(p:N0)(s:u9):Stp u9:=H8 .next .exit .fail p s
noncomputable def ma3:Lo N0 u9:=⟨En La9,2,Bf7,[1,1,1,0,1,4,4],[0,1,5,6],.p,[⟨.s (.o (.sl 0 0 (some 0) none))::.fn 152 [.o (.ptr 1 0 0 0)]::ru2 3 (sIq::sIq::ru2 35 []),[⟨73,4,true,none⟩,⟨0,1,true,some [[.c 4 (nL tX)]]⟩],λa H=>(⟨slN (slT a 0)⟩,⟨aIq a 5,aIq a 6,elT H 0,hLq tX H 1 0 0⟩)⟩],D9,[(some 0,λp s=>upq (Fa5 p s) [(16,i s.is6),(17,.sl 0 0 p.ns0 0),(18,i (↑p.ns0:Int)),(19,b (decide (s.is6<(↑p.ns0:Int))))])],Fa5⟩
theorem tb5:ma3.Ok:=Lo.ok [] (by kernel_rfl) .nil rfl (.cons (λa H=>by kernel_rfl) .nil) λp s=>(.of @H8 (λF _ _ _ _ _=>by unfold H8;(repeat' apply l6 (f:=F))<;>rfl) (by kernel_rfl))
structure da0 where
 (alt ns0:Nat)
 eh0:List (List b7)
 B9:List Pt
noncomputable def J0{α:Type}(kk:da0->α)(x:ca9):α:=let t1:=(ca8 ⟨x.ns0,x.eh0,rt tX x.B9⟩);let t2:=(lp (D9 (⟨x.ns0⟩:N0)) (⟨t1.is0,W (t1.is0+1),x.eh0,rt tX t1.B9⟩:u9));(sl ((cnE tX x.B9)&&true) (sl (Nat.beq t1.alt 1) (sl (t1.is0==(-1)) (kk ⟨1,x.ns0,x.eh0,t1.B9⟩) (sl ((cnE tX t1.B9)&&true) (sl (Nat.beq t2.1 1) (sl (inB t2.2.is5 (x.ns0+1)) (sl (inB t2.2.is5 (x.ns0+1)) (kk ⟨1,t2.2.is5.toNat-0,app (N8 t2.2.eh0 (0+t2.2.is5.toNat)) (app (List.replicate (x.ns0-t2.2.is5.toNat) [i 0,i 0,i 0,i 0]) (l0 t2.2.eh0 ((0+t2.2.is5.toNat)+(x.ns0-t2.2.is5.toNat)))),t2.2.B9⟩) (kk ⟨0,0,[],[]⟩)) (kk ⟨0,0,[],[]⟩)) (kk ⟨0,0,[],[]⟩)) (kk ⟨0,0,[],[]⟩))) (kk ⟨0,0,[],[]⟩)) (kk ⟨0,0,[],[]⟩))
noncomputable def J1(x:ca9):da0:=J0 (λr=>r) x
noncomputable def qa1(x:ca9)(r:da0):DT (b7×List b8):=(.ite (Nat.beq r.alt 1) (.ret (.sl 0 0 r.ns0 0,[⟨73,4,r.eh0,true,false,0⟩,⟨0,1,[[eL tX r.B9]],true,false,0⟩])) .fail)
theorem Gb4{α β:Type}(F:α->β)(kk:da0->α)(x:ca9):F (J0 kk x)=J0 (λr=>F (kk r)) x:=by unfold J0;(repeat' apply l6 (f:=F))<;>rfl
noncomputable def sa3:Sum:=Ra9 ⟨[.s (.o (.sl 0 0 (some 0) none)),.fn 152 [.o (.ptr 1 0 0 0)]],[⟨73,4,true,none⟩,⟨0,1,true,some [[.c 4 (nL tX)]]⟩],λa H=>(⟨slN (slT a 0),elT H 0,hLq tX H 1 0 0⟩,())⟩ (λx=>qa1 x (J1 x))
theorem Ma0:g9 prog G 150 sa3:=J4 (enc:=λx=>⟨[.sl 0 0 x.ns0 0,.fn 152 [.ptr 1 0 0 0]],[⟨73,4,x.eh0,true,false,0⟩,⟨0,1,[[eL tX x.B9]],true,false,0⟩]⟩) (λa H=>by kernel_rfl) (bd Vf9 wb9) λx=>wa1 (.s .p (.s .p (.s .p (.s (.s .p (.b (.u ma3.ls))) .p)))) [ma3.pr] (by kernel_rfl) (.cons tb5 .nil) (Qjh (b:=J0 (λr=>(qa1 x r).run) x) (by kernel_rfl) (Gb4 (λr=>(qa1 x r).run) (λr=>r) x).symm)
structure ma4 where
 ns0:Nat
 eh0:List (List b7)
noncomputable def Aa0:List (Nat×Sum):=[]
theorem Nb7:i7 prog G Aa0:=trivial
structure E9 where
 (ns0 os4 ns4:Nat)
structure r4 where
 (is3 is5:Int)
 eh0:List (List b7)
noncomputable def Qa5(p:E9)(s:r4):St:=⟨.sl 0 0 p.ns0 0::.unk::.unk::i s.is3::.sl 0 p.os4 p.ns4 0::i s.is5::ra 55 [],[⟨73,4,s.eh0,true,false,0⟩]⟩
noncomputable def O3{α:Type}(k:r4->α)(e:Nat->α)(z:α)(p:E9)(s:r4):α:=(sl (decide (s.is5<(↑p.ns4:Int))) (sl (inB s.is5 p.ns4) (sl (ldR tP s.eh0 (p.os4+s.is5.toNat)) (sl (inB (W (s.is5-1)) p.ns4) (sl (ldR tP s.eh0 (p.os4+(W (s.is5-1)).toNat)) (sl (!(((rdR tP s.eh0 (p.os4+s.is5.toNat)).n.x==(rdR tP s.eh0 (p.os4+(W (s.is5-1)).toNat)).n.x)&&(((rdR tP s.eh0 (p.os4+s.is5.toNat)).n.y==(rdR tP s.eh0 (p.os4+(W (s.is5-1)).toNat)).n.y)&&(((rdR tP s.eh0 (p.os4+s.is5.toNat)).n.z==(rdR tP s.eh0 (p.os4+(W (s.is5-1)).toNat)).n.z)&&(((rdR tP s.eh0 (p.os4+s.is5.toNat)).b==(rdR tP s.eh0 (p.os4+(W (s.is5-1)).toNat)).b)&&true))))) (sl (inB s.is5 p.ns4) (sl (ldR tP s.eh0 (p.os4+s.is5.toNat)) (sl (inB s.is3 p.ns0) (sl ((Nat.blt (0+s.is3.toNat) (len s.eh0))&&(Nat.ble (0+4) (len (l5 s.eh0 (0+s.is3.toNat))))) (k ⟨W (s.is3+1),W (s.is5+1),setAt s.eh0 (0+s.is3.toNat) (ea2 (l5 s.eh0 (0+s.is3.toNat)) 0 [i (rdR tP s.eh0 (p.os4+s.is5.toNat)).n.x,i (rdR tP s.eh0 (p.os4+s.is5.toNat)).n.y,i (rdR tP s.eh0 (p.os4+s.is5.toNat)).n.z,i (rdR tP s.eh0 (p.os4+s.is5.toNat)).b])⟩) z) z) z) z) (k ⟨s.is3,W (s.is5+1),s.eh0⟩)) z) z) z) z) (e 1))
noncomputable def u7(p:E9)(s:r4):Stp r4:=O3 .next .exit .fail p s
noncomputable def xa0:Lo E9 r4:=⟨En Aa0,1,We6,[1,1,0,1,4,4,1,0,4,1,2,1,0,1,4,4],[0,3,4,5],.p,[⟨.s (.o (.sl 0 0 (some 0) none))::sUq::sUq::sIq::.s (.o (.sl 0 0 none none))::sIq::ru2 55 [],[⟨73,4,true,none⟩],λa H=>(⟨slN (slT a 0),slO (slT a 4),slN (slT a 4)⟩,⟨aIq a 3,aIq a 5,elT H 0⟩)⟩],u7,[(some 2,λp s=>upq (Qa5 p s) [(29,i s.is5),(30,.sl 0 p.os4 p.ns4 0),(31,i (↑p.ns4:Int)),(32,b (decide (s.is5<(↑p.ns4:Int))))])],Qa5⟩
theorem Gb5:xa0.Ok:=Lo.ok [] (by kernel_rfl) .nil rfl (.cons (λa H=>by kernel_rfl) .nil) λp s=>(.of @O3 (λF _ _ _ _ _=>by unfold O3;(repeat' apply l6 (f:=F))<;>rfl) (by kernel_rfl))
structure S9 where
 ns0:Nat
 eh0:List (List b7)
structure w7 where
 is3:Int
noncomputable def Qa6(p:S9)(s:w7):St:=⟨.sl 0 0 p.ns0 0::.unk::.unk::i s.is3::ra 57 [],[⟨73,4,p.eh0,true,false,0⟩]⟩
noncomputable def O4{α:Type}(k:w7->α)(e:Nat->α)(z:α)(p:S9)(s:w7):α:=let t1:=(lp (u7 (⟨p.ns0,0+s.is3.toNat,p.ns0-s.is3.toNat⟩:E9)) (⟨s.is3,1,p.eh0⟩:r4));(sl (decide (s.is3<(↑p.ns0:Int))) (sl (inB s.is3 p.ns0) (sl (ldR tP p.eh0 (0+s.is3.toNat)) (sl (inB (W (s.is3-1)) p.ns0) (sl (ldR tP p.eh0 (0+(W (s.is3-1)).toNat)) (sl (((rdR tP p.eh0 (0+s.is3.toNat)).n.x==(rdR tP p.eh0 (0+(W (s.is3-1)).toNat)).n.x)&&(((rdR tP p.eh0 (0+s.is3.toNat)).n.y==(rdR tP p.eh0 (0+(W (s.is3-1)).toNat)).n.y)&&(((rdR tP p.eh0 (0+s.is3.toNat)).n.z==(rdR tP p.eh0 (0+(W (s.is3-1)).toNat)).n.z)&&(((rdR tP p.eh0 (0+s.is3.toNat)).b==(rdR tP p.eh0 (0+(W (s.is3-1)).toNat)).b)&&true)))) (sl (inB s.is3 (p.ns0+1)) (sl (Nat.beq t1.1 1) (sl (inB t1.2.is3 (p.ns0+1)) (sl (inB t1.2.is3 (p.ns0+1)) (e 1) z) z) z) z) (k ⟨W (s.is3+1)⟩)) z) z) z) z) (e 2))
noncomputable def R4(p:S9)(s:w7):Stp w7:=O4 .next .exit .fail p s
noncomputable def xa1:Lo S9 w7:=⟨En Aa0,1,We6,[1,1,0,1,4,4],[0,3],.s .p (.s (.b (.s .p (.c (.s .p (.s (.s .p (.b (.u xa0.ls))) .p)) .p))) .p),[⟨.s (.o (.sl 0 0 (some 0) none))::sUq::sUq::sIq::ru2 57 [],[⟨73,4,true,none⟩],λa H=>(⟨slN (slT a 0),elT H 0⟩,⟨aIq a 3⟩)⟩],R4,[(none,λp s=>let t1:=(lp (u7 (⟨p.ns0,0+s.is3.toNat,p.ns0-s.is3.toNat⟩:E9)) (⟨s.is3,1,p.eh0⟩:r4));⟨[.sl 0 0 (t1.2.is3.toNat-0) 0],[⟨73,4,app (N8 t1.2.eh0 (0+t1.2.is3.toNat)) (app (List.replicate (p.ns0-t1.2.is3.toNat) [i 0,i 0,i 0,i 0]) (l0 t1.2.eh0 ((0+t1.2.is3.toNat)+(p.ns0-t1.2.is3.toNat)))),true,false,0⟩]⟩),(some 0,λp s=>upq (Qa6 p s) [(10,i s.is3),(11,.sl 0 0 p.ns0 0),(12,i (↑p.ns0:Int)),(13,b (decide (s.is3<(↑p.ns0:Int))))])],Qa6⟩
theorem Gb6:xa1.Ok:=Lo.ok [xa0.pr] (by kernel_rfl) (.cons Gb5 .nil) rfl (.cons (λa H=>by kernel_rfl) .nil) λp s=>(.of @O4 (λF _ _ _ _ _=>by unfold O4;(repeat' apply l6 (f:=F))<;>rfl) (by kernel_rfl))
structure ma5 where
 (alt ns0:Nat)
 eh0:List (List b7)
noncomputable def P6{α:Type}(kk:ma5->α)(x:ma4):α:=let t1:=(lp (R4 (⟨x.ns0,x.eh0⟩:S9)) (⟨1⟩:w7));let t2:=(lp (u7 (⟨x.ns0,0+t1.2.is3.toNat,x.ns0-t1.2.is3.toNat⟩:E9)) (⟨t1.2.is3,1,x.eh0⟩:r4));(sl (decide ((↑x.ns0:Int)<2)) (kk ⟨1,x.ns0,x.eh0⟩) (sl (Nat.beq t1.1 1) (kk ⟨1,t2.2.is3.toNat-0,app (N8 t2.2.eh0 (0+t2.2.is3.toNat)) (app (List.replicate (x.ns0-t2.2.is3.toNat) [i 0,i 0,i 0,i 0]) (l0 t2.2.eh0 ((0+t2.2.is3.toNat)+(x.ns0-t2.2.is3.toNat))))⟩) (sl (Nat.beq t1.1 2) (kk ⟨1,x.ns0,x.eh0⟩) (kk ⟨0,0,[]⟩))))
noncomputable def Z7(x:ma4):ma5:=P6 (λr=>r) x
noncomputable def Aa1(x:ma4)(r:ma5):DT (b7×List b8):=(.ite (Nat.beq r.alt 1) (.ret (.sl 0 0 r.ns0 0,[⟨73,4,r.eh0,true,false,0⟩])) .fail)
theorem Wb8{α β:Type}(F:α->β)(kk:ma5->α)(x:ma4):F (P6 kk x)=P6 (λr=>F (kk r)) x:=by unfold P6;(repeat' apply l6 (f:=F))<;>rfl
noncomputable def Ca7:Sum:=Ra9 ⟨[.s (.o (.sl 0 0 (some 0) none))],[⟨73,4,true,none⟩],λa H=>(⟨slN (slT a 0),elT H 0⟩,())⟩ (λx=>Aa1 x (Z7 x))
theorem Ya8:g9 prog G 154 Ca7:=J4 (enc:=λx=>⟨[.sl 0 0 x.ns0 0],[⟨73,4,x.eh0,true,false,0⟩]⟩) (λa H=>by kernel_rfl) (bd Wf0 Nb7) λx=>wa1 (.s .p (.s .p (.s (.s .p (.b (.u xa1.ls))) .p))) [xa1.pr] (by kernel_rfl) (.cons Gb6 .nil) (Qjh (b:=P6 (λr=>(Aa1 x r).run) x) (by kernel_rfl) (Wb8 (λr=>(Aa1 x r).run) (λr=>r) x).symm)
noncomputable def nd8:List (Nat×Sum):=[]
theorem Yc9:i7 prog G nd8:=trivial
noncomputable def Ta9(x:Int)(y:Int):Option (b7×List b8):=(sl (decide (x<y)) (some (i (-1),[])) (sl (decide (x>y)) (some (i 1,[])) (some (i 0,[]))))
noncomputable def xa2(x:Int)(y:Int):Int:=N6 (one r1I) (Ta9 x y)
noncomputable def xa3(x:Int)(y:Int):Bool:=okO (one r1I) (Ta9 x y)
noncomputable def tc5:Sum:=oa3 cI cI (λx y=>.guard (xa3 x y) (.ret ((one r1I).enc (xa2 x y),[])))
theorem nd9:g9 prog G 141 tc5:=mb9 (bd fg8 Yc9) (one r1I) (o:=Ta9) λx y=>v8 (by kernel_rfl)
noncomputable def Pc2:List (Nat×Sum):=[(141,tc5)]
theorem Hc7:i7 prog G Pc2:=⟨nd9,trivial⟩
noncomputable def Fa6(x:Pln)(y:Pln):Option (b7×List b8):=let t1:=(xa2 x.n.x y.n.x);let t2:=(xa2 x.n.y y.n.y);let t3:=(xa2 x.n.z y.n.z);let t4:=(xa2 x.b y.b);(sl (xa3 x.n.x y.n.x) (sl (t1==0) (sl (xa3 x.n.y y.n.y) (sl (t2==0) (sl (xa3 x.n.z y.n.z) (sl (t3==0) (sl (xa3 x.b y.b) (sl (t4==0) (some (i t4,[])) (some (i t4,[]))) none) (some (i t3,[]))) none) (some (i t2,[]))) none) (some (i t1,[]))) none)
noncomputable def Va9(x:Pln)(y:Pln):Int:=N6 (one r1I) (Fa6 x y)
noncomputable def Wa0(x:Pln)(y:Pln):Bool:=okO (one r1I) (Fa6 x y)
noncomputable def tb6:Sum:=oa3 (ia0 tP) (ia0 tP) (λx y=>.guard (Wa0 x y) (.ret ((one r1I).enc (Va9 x y),[])))
theorem Pc3:g9 prog G 122 tb6:=mb9 (bd eg8 Hc7) (one r1I) (o:=Fa6) λx y=>v8 (by kernel_rfl)
noncomputable def yd8:List (Nat×Sum):=[(109,cb5),(110,oc9),(111,Xa4)]
theorem od0:i7 prog G yd8:=⟨lb4,xc4,ub7,trivial⟩
noncomputable def db7(x:List Pln)(y:List Pln):Option (b7×List b8):=let t1:=(ua4 [rt tP x,rt tP y]);let t2:=(ib5 [rt tP x,rt tP y]);let t3:=(pa4 (rt tP t2));(sl ((okE tP x)&&((okE tP y)&&true)) (sl (ua5 [rt tP x,rt tP y]) (sl (!t1) (some (b true,[])) (sl ((okE tP x)&&((okE tP y)&&true)) (sl (ib6 [rt tP x,rt tP y]) (sl (okE tP t2) (sl (pa5 (rt tP t2)) (some (b (!t3),[])) none) none) none) none)) none) none)
noncomputable def Oa5(x:List Pln)(y:List Pln):Bool:=N6 (one r1B) (db7 x y)
noncomputable def Oa6(x:List Pln)(y:List Pln):Bool:=okO (one r1B) (db7 x y)
noncomputable def Wb9:Sum:=oa3 (P0 tP) (P0 tP) (λx y=>.guard (Oa6 x y) (.ret ((one r1B).enc (Oa5 x y),[])))
theorem tc6:g9 prog G 56 Wb9:=mb9 (bd b56 od0) (one r1B) (o:=db7) λx y=>v8 (by kernel_rfl)
structure Wa1 where
 (ia5 ia6 ia7 rb0:Int)
 d7:List Pln
noncomputable def Pc4:List (Nat×Sum):=[(115,Lb4)]
theorem Hc8:i7 prog G Pc4:=⟨ic3,trivial⟩
structure Fa7 where
 alt:Nat
 bs0:Bool
noncomputable def ta1{α:Type}(kk:Fa7->α)(x:Wa1):α:=let t1:=(na5 (rt tP x.d7) (⟨x.ia5,x.ia6,x.ia7,x.rb0⟩:Pt));(sl (okE tP x.d7) (sl (na6 (rt tP x.d7) (⟨x.ia5,x.ia6,x.ia7,x.rb0⟩:Pt)) (kk ⟨1,!t1⟩) (kk ⟨0,false⟩)) (kk ⟨0,false⟩))
noncomputable def Wa2(x:Wa1):Fa7:=ta1 (λr=>r) x
noncomputable def jb5(x:Wa1)(r:Fa7):DT (b7×List b8):=(.ite (Nat.beq r.alt 1) (.ret (b r.bs0,[⟨0,1,[[eL tP x.d7]],true,false,0⟩])) .fail)
theorem Zc0{α β:Type}(F:α->β)(kk:Fa7->α)(x:Wa1):F (ta1 kk x)=ta1 (λr=>F (kk r)) x:=by unfold ta1;(repeat' apply l6 (f:=F))<;>rfl
noncomputable def ac5:Sum:=Ra9 ⟨[.agg (kLq 4),sPq 0],[⟨0,1,true,some [[.c 4 (nL tP)]]⟩],λa H=>(⟨cIq a 0 0,cIq a 0 1,cIq a 0 2,cIq a 0 3,hLq tP H 0 0 0⟩,())⟩ (λx=>jb5 x (Wa2 x))
theorem Pc5:g9 prog G 114 ac5:=J4 (enc:=λx=>⟨[.agg [i x.ia5,i x.ia6,i x.ia7,i x.rb0],.ptr 0 0 0 0],[⟨0,1,[[eL tP x.d7]],true,false,0⟩]⟩) (λa H=>by kernel_rfl) (bd eg4 Hc8) λx=>v8 (Qjh (b:=ta1 (λr=>(jb5 x r).run) x) (by kernel_rfl) (Zc0 (λr=>(jb5 x r).run) (λr=>r) x).symm)
structure da1 where
 U7:List Pt
 d7:List Pln
noncomputable def Ma1:List (Nat×Sum):=[(114,ac5)]
theorem xb0:i7 prog G Ma1:=⟨Pc5,trivial⟩
structure N1 where
 U7:List Pt
 is7:Int
structure q8 where
 is8:Int
 d7:List Pln
noncomputable def Fa8(p:N1)(s:q8):St:=⟨eL tX p.U7::.fn 114 [.ptr 0 0 0 0]::ra 5 (i p.is7::i s.is8::ra 10 []),[⟨0,1,[[eL tP s.d7]],true,false,0⟩]⟩
noncomputable def H9{α:Type}(k:q8->α)(e:Nat->α)(z:α)(p:N1)(s:q8):α:=let t1:=(Wa2 ⟨(gL tX p.U7 s.is8.toNat).px,(gL tX p.U7 s.is8.toNat).py,(gL tX p.U7 s.is8.toNat).pz,(gL tX p.U7 s.is8.toNat).pw,rt tP s.d7⟩);(sl (decide (s.is8<p.is7)) (sl (inB s.is8 (List.length p.U7)) (sl ((cnE tP s.d7)&&true) (sl (Nat.beq t1.alt 1) (sl t1.bs0 (e 1) (k ⟨W (s.is8+1),rt tP s.d7⟩)) z) z) z) (e 2))
noncomputable def K9(p:N1)(s:q8):Stp q8:=H9 .next .exit .fail p s
noncomputable def ma6:Lo N1 q8:=⟨En Ma1,1,We9,[1,0,1,4,4],[0,1,7,8],.p,[⟨sLq tX::.fn 114 [.o (.ptr 0 0 0 0)]::ru2 5 (sIq::sIq::ru2 10 []),[⟨0,1,true,some [[.c 4 (nL tP)]]⟩],λa H=>(⟨aLq tX a 0,aIq a 7⟩,⟨aIq a 8,hLq tP H 0 0 0⟩)⟩],K9,[(none,λp s=>⟨[i s.is8],[⟨0,1,[[eL tP (rt tP s.d7)]],true,false,0⟩]⟩),(some 0,λp s=>upq (Fa8 p s) [(9,b (decide (s.is8<p.is7)))])],Fa8⟩
theorem tb7:ma6.Ok:=Lo.ok [] (by kernel_rfl) .nil rfl (.cons (λa H=>by kernel_rfl) .nil) λp s=>(.of @H9 (λF _ _ _ _ _=>by unfold H9;(repeat' apply l6 (f:=F))<;>rfl) (by kernel_rfl))
structure da2 where
 alt:Nat
 is0:Int
 d7:List Pln
noncomputable def J2{α:Type}(kk:da2->α)(x:da1):α:=let t1:=(lp (K9 (⟨rt tX x.U7,(↑(List.length x.U7):Int)⟩:N1)) (⟨0,rt tP x.d7⟩:q8));(sl ((cnE tX x.U7)&&((cnE tP x.d7)&&true)) (sl (Nat.beq t1.1 1) (kk ⟨1,t1.2.is8,rt tP t1.2.d7⟩) (sl (Nat.beq t1.1 2) (kk ⟨1,-1,t1.2.d7⟩) (kk ⟨0,0,[]⟩))) (kk ⟨0,0,[]⟩))
noncomputable def sa4(x:da1):da2:=J2 (λr=>r) x
noncomputable def qa2(x:da1)(r:da2):DT (b7×List b8):=(.ite (Nat.beq r.alt 1) (.ret (i r.is0,[⟨0,1,[[eL tP r.d7]],true,false,0⟩])) .fail)
theorem Gb7{α β:Type}(F:α->β)(kk:da2->α)(x:da1):F (J2 kk x)=J2 (λr=>F (kk r)) x:=by unfold J2;(repeat' apply l6 (f:=F))<;>rfl
noncomputable def Qa7:Sum:=Ra9 ⟨[sLq tX,.fn 114 [.o (.ptr 0 0 0 0)]],[⟨0,1,true,some [[.c 4 (nL tP)]]⟩],λa H=>(⟨aLq tX a 0,hLq tP H 0 0 0⟩,())⟩ (λx=>qa2 x (sa4 x))
theorem Db4:g9 prog G 171 Qa7:=J4 (enc:=λx=>⟨[eL tX x.U7,.fn 114 [.ptr 0 0 0 0]],[⟨0,1,[[eL tP x.d7]],true,false,0⟩]⟩) (λa H=>by kernel_rfl) (bd Wf2 xb0) λx=>wa1 (.s .p (.s (.s .p (.b (.u ma6.ls))) .p)) [ma6.pr] (by kernel_rfl) (.cons tb7 .nil) (Qjh (b:=J2 (λr=>(qa2 x r).run) x) (by kernel_rfl) (Gb7 (λr=>(qa2 x r).run) (λr=>r) x).symm)
structure U4 where
 U7:List Pt
 d7:List Pln
noncomputable def pb9:List (Nat×Sum):=[(171,Qa7)]
theorem jb6:i7 prog G pb9:=⟨Db4,trivial⟩
structure U5 where
 alt:Nat
 bs0:Bool
 d7:List Pln
noncomputable def E0{α:Type}(kk:U5->α)(x:U4):α:=let t1:=(sa4 ⟨rt tX x.U7,rt tP x.d7⟩);(sl ((cnE tX x.U7)&&((cnE tP x.d7)&&true)) (sl (Nat.beq t1.alt 1) (kk ⟨1,decide (t1.is0>=0),t1.d7⟩) (kk ⟨0,false,[]⟩)) (kk ⟨0,false,[]⟩))
noncomputable def ja7(x:U4):U5:=E0 (λr=>r) x
noncomputable def ha6(x:U4)(r:U5):DT (b7×List b8):=(.ite (Nat.beq r.alt 1) (.ret (b r.bs0,[⟨0,1,[[eL tP r.d7]],true,false,0⟩])) .fail)
theorem tb8{α β:Type}(F:α->β)(kk:U5->α)(x:U4):F (E0 kk x)=E0 (λr=>F (kk r)) x:=by unfold E0;(repeat' apply l6 (f:=F))<;>rfl
noncomputable def Fa9:Sum:=Ra9 ⟨[sLq tX,.fn 114 [.o (.ptr 0 0 0 0)]],[⟨0,1,true,some [[.c 4 (nL tP)]]⟩],λa H=>(⟨aLq tX a 0,hLq tP H 0 0 0⟩,())⟩ (λx=>ha6 x (ja7 x))
theorem qb0:g9 prog G 112 Fa9:=J4 (enc:=λx=>⟨[eL tX x.U7,.fn 114 [.ptr 0 0 0 0]],[⟨0,1,[[eL tP x.d7]],true,false,0⟩]⟩) (λa H=>by kernel_rfl) (bd Vf8 jb6) λx=>v8 (Qjh (b:=E0 (λr=>(ha6 x r).run) x) (by kernel_rfl) (tb8 (λr=>(ha6 x r).run) (λr=>r) x).symm)
noncomputable def od1:List (Nat×Sum):=[(55,Ba3),(109,cb5),(113,Ta3),(112,Fa9)]
theorem Zc1:i7 prog G od1:=⟨Ca5,lb4,cb7,qb0,trivial⟩
noncomputable def Ua0(x:List Pln)(y:List Pln):Option (b7×List b8):=let t1:=(na7 (rt tP x));let t2:=(ua4 [rt tP y]);let t3:=(wa3 (rt tP x));let t4:=(ja7 ⟨rt tX t3,rt tP y⟩);(sl (okE tP x) (sl (na8 (rt tP x)) (sl t1 (sl ((okE tP y)&&true) (sl (ua5 [rt tP y]) (sl t2 (sl (okE tP x) (sl (wa4 (rt tP x)) (sl ((cnE tX t3)&&((cnE tP y)&&true)) (sl (Nat.beq t4.alt 1) (some (b (!t4.bs0),[])) none) none) none) none) (some (b false,[]))) none) none) (some (b false,[]))) none) none)
noncomputable def lb8(x:List Pln)(y:List Pln):Bool:=N6 (one r1B) (Ua0 x y)
noncomputable def lb9(x:List Pln)(y:List Pln):Bool:=okO (one r1B) (Ua0 x y)
noncomputable def tc7:Sum:=oa3 (P0 tP) (P0 tP) (λx y=>.guard (lb9 x y) (.ret ((one r1B).enc (lb8 x y),[])))
theorem od2:g9 prog G 57 tc7:=mb9 (bd b57 Zc1) (one r1B) (o:=Ua0) λx y=>v8 (by kernel_rfl)
noncomputable def ge8:List (Nat×Sum):=[]
theorem Rd6:i7 prog G ge8:=trivial
structure Xb0 where
 (i9 Ce9 De0 De1 De2 De3:Int)
noncomputable def Db5{α:Type}(kk:Xb0->α)(x:V3)(y:V3):α:=(kk ⟨y.x,W (0-x.x),y.y,W (0-x.y),y.z,W (0-x.z)⟩)
noncomputable def od3(x:V3)(y:V3):Xb0:=Db5 (λr=>r) x y
noncomputable def kc4(r:Xb0):DT (b7×List b8):=.ret (.sl 0 0 6 0,[⟨73,4,[[i 1,i 0,i 0,i r.i9],[i (-1),i 0,i 0,i r.Ce9],[i 0,i 1,i 0,i r.De0],[i 0,i (-1),i 0,i r.De1],[i 0,i 0,i 1,i r.De2],[i 0,i 0,i (-1),i r.De3]],true,false,0⟩])
theorem se6{α β:Type}(F:α->β)(kk:Xb0->α)(x:V3)(y:V3):F (Db5 kk x y)=Db5 (λr=>F (kk r)) x y:=by unfold Db5;(repeat' apply l6 (f:=F))<;>rfl
noncomputable def od4:Sum:=oa3 (ia0 tV) (ia0 tV) (λx y=>kc4 (od3 x y))
theorem ge9:g9 prog G 63 od4:=Ha8 (bd b63 Rd6) λx y=>v8 (Qjh (b:=Db5 (λr=>(kc4 r).run) x y) (by kernel_rfl) (se6 (λr=>(kc4 r).run) (λr=>r) x y).symm)
noncomputable def has(c:List Pln)(v:V3):Bool:=(chk c==0)&&(inV v&&inn c ⟨v.x,v.y,v.z,1⟩)
theorem he0{a c:List Pln}(ha:(chk a==0)=true)(hc:(chk c==0)=true):Bds (a++c++ws)/\(a++c++ws).length<=200:=by
 rw[beq_iff_eq,cb8] at ha hc;refine⟨λp hp=>?_,by rw[Qjc,Qjc,show ws.length=6 from rfl];omega⟩
 rcases List.mem_append.1 hp with hp|hp
 ·rcases List.mem_append.1 hp with hp|hp
  ·exact jc3 (ha.2 p hp)
  ·exact jc3 (hc.2 p hp)
 ·exact Df6 p hp
noncomputable def apart(a c:List Pln):Bool:=!((chk a==0)&&(chk c==0))||!Yc2 (a++c++ws)
theorem he3{a c:List Pln}(ha:a.length<=100000000)(hc:c.length<=100000000):db7 a c=some (b (apart a c),[]):=by
 have hn:[a,c].length<=1000000000:=by simp
 have hl:∀x∈[a,c],x.length<=1000000000:=by
  intro x hx;simp only[Qjd,List.not_mem_nil,or_false] at hx
  rcases hx with rfl|rfl<;>omega
 have hf:[a,c].flatten=a++c:=by simp
 have hfl:[a,c].flatten.length<=1000000000:=by rw[hf,Qjc];omega
 unfold db7 apart;simp only[i5,o5,ee9 _ hn hl,fe0 _ hn hl,Wf5 _ hn hfl,Wf6 _ hn hfl,hf,List.all_cons,List.all_nil,Qjo];cases h1:chk a==0 with
 |false=>rfl
 |true =>
  cases h2:chk c==0 with
  |false=>rfl
  |true =>
   obtain⟨q1,q2⟩:=he0 h1 h2;rw[Ye8 _ q1 q2,Ye9 _ q1 q2];rfl
theorem Ae1{a c:List Pln}(ha:a.length<=100000000)(hc:c.length<=100000000):Oa5 a c=apart a c:=by unfold Oa5;rw[he3 ha hc];rfl
theorem Ae2{a c:List Pln}(ha:a.length<=100000000)(hc:c.length<=100000000):Oa6 a c=true:=by unfold Oa6;rw[he3 ha hc];rfl
noncomputable def lies(a c:List Pln):Bool:=ful a&&((chk c==0)&&(pts a).all (inn c))
theorem se7(x:Pt)(c:List Pln)(hc:c.length<=1000000000):Wa2 ⟨x.px,x.py,x.pz,x.pw,c⟩=⟨1,!inn c x⟩:=by
 unfold Wa2 ta1;simp only[i5,o5,f9];show sl (na6 c x) (Fa7.mk 1 (!na5 c x)) _=_;rw[de4 c x hc,de5 c x hc];rfl
theorem Gd5{a c:List Pln}(ha:a.length<=1000000000)(hc:c.length<=1000000000):Ua0 a c=some (b (lies a c),[]):=by
 have hX:=cd3 a;have h:=Na8 (step:=K9 ⟨pts a,((pts a).length:Int)⟩) (mk:=λj=>(⟨(j:Int),c⟩:q8)) (c:=λx=>!inn c x) (u:=1) (fin:=2) tX (pts a) (by omega)
  (λj hj=>by
   simp only[K9,H9,Int.toNat_natCast,i5,i8,se7 _ _ hc,n8 hj (show (pts a).length<=4611686018427387904 by omega)]
   rw[btD (g7 hj),bt (f0 hj)]
   rfl)
  (by simp only[K9,H9];rw[bfD (l9 (Qjai _))]) 0 (Qjy _)
 rw[Qjaf] at h;have e:((pts a).any λx=>!inn c x)=!(pts a).all (inn c):=by rw[List.not_all_eq_any_not]
 unfold Ua0 ja7 E0 sa4 J2 lies;simp only[i5,i8,o5,xc8 ha,xc9 ha,ld9 c hc,md0 c hc,Gc7 ha,Gc8 ha];rw[show (⟨0,c⟩:q8)=⟨((0:Nat):Int),c⟩ from rfl,h,e]
 cases ful a with
 |false=>rfl
 |true =>
  cases chk c==0 with
  |false=>rfl
  |true =>
   cases (pts a).all (inn c) with
   |true=>rfl
   |false =>
    simp only[Bool.not_false,if_true,Qja];show some (b (!(decide ((((pts a).findIdx λx=>!inn c x:Nat):Int)>=0))),[])=_
    rw[show decide ((((pts a).findIdx λx=>!inn c x:Nat):Int)>=0)=true from decide_eq_true (by omega)]
    rfl
theorem af5{a c:List Pln}(ha:a.length<=1000000000)(hc:c.length<=1000000000):lb8 a c=lies a c:=by unfold lb8;rw[Gd5 ha hc];rfl
theorem af6{a c:List Pln}(ha:a.length<=1000000000)(hc:c.length<=1000000000):lb9 a c=true:=by unfold lb9;rw[Gd5 ha hc];rfl
end Go.Ev.Ce
namespace Go.Ev.L
open Go Go.Ev Go.Sort Go.Proofs
section
variable{α:Type}[Inhabited α]{P:Program}{G:Nat->List Value}{g:FuncId}{S:Sum}{t:Ty α}{enc:α->List Value}{cf:α->α->Int}
theorem uf7 (hc : g9 P G g S) (hS : ∀ x y, (S [.agg (t.row x), .agg (t.row y)] []).run = some (i (cf x y), [])) (hG : ∀ n, G n = []) (he : ∀ x, t.row x = (enc x).map .v) (k blk off size : Nat) (w : World) :
  CmpLays P g #[] enc k cf blk off size w:=by
 intro m os dk _ x y;generalize sortWorldK enc k w blk off m dk os=w0;have hrow:∀(z:α),ka6 (λ_=>⟨0,0,0⟩) [] (λ_ _=>False) w0 (.agg (t.row z)) (.agg (enc z).toArray):=λz=>by
  refine .agg _ _ (by rw[he];simp) λi u u' hu hu'=>?_
  rw[he,Qjz] at hu;have hu':(enc z)[i]?=some u':=by simpa using hu'
  rw[hu'] at hu;injection hu with hu;subst hu;exact .v _
 obtain⟨_,h⟩:=hc _ _ _ _ (hS x y) (λk=>w0.heap.size<=k) (λ_=>⟨0,0,0⟩) (λ_ _=>False) w0 [.agg (enc x).toArray,.agg (enc y).toArray]
  ⟨λid b hb=>by simp at hb,λid id' b b' hb=>by simp at hb,λb o hf=>hf.elim,λk hk=>hk⟩ rfl
  (λi u u' hu hu'=>by
   match i,hu,hu' with
   |0,hu,hu'=>cases hu;cases hu';exact .val (hrow x)
   |1,hu,hu'=>cases hu;cases hu';exact .val (hrow y))
  (λn c v hv=>by rw[hG] at hv;simp at hv)
 refine h.mono λe w' ⟨r',h1,ρ',F',h2,h3,h4⟩=>?_
 have h5:=ka1 h4;subst h5;refine⟨h1,w'.drawn-w0.drawn,w'.heap.extract w0.heap.size w'.heap.size,?_⟩;have hd:=h2.ext.drawn;have hs:=h2.ext.size;have hheap:w'.heap=w0.heap++w'.heap.extract w0.heap.size w'.heap.size:=by
  apply Array.ext_getElem?;intro j
  rcases Nat.lt_or_ge j w0.heap.size with hj|hj
  ·rw[Qjx hj,h2.ext.block j hj (by omega)]
  ·rw[Array.getElem?_append_right hj,Array.getElem?_extract];have e:w0.heap.size+(j-w0.heap.size)=j:=by omega
   rw[e];split
   ·rfl
   ·rw[Qjao (by omega)]
 obtain⟨hp,tp,dr,os',out⟩:=w';have e1:=h2.ext.os;have e2:=h2.ext.tape;have e3:=h2.ext.output
 simp only at e1 e2 e3 hd hheap
 subst e1 e2 e3;unfold grow World.drewN
 simp only
 congr 1;omega
noncomputable def af7(t:Ty α)(g:Nat)(et:Nat)(srt:List α->List α):Sum:=λargs blks=>match args,blks with
 |[.sl 0 0 n 0,.fn g' []],[⟨et',es',el,true,false,0⟩] =>
  Bool.rec (motive:=λ_=>DT (b7×List b8)) .fail (.guard (Bool.and (Nat.ble n room) (Bool.and (Nat.ble n (len el)) (okS t el 0 n))) (.ret (.v (.tuple #[]),[⟨et',es',app (bL t (srt (slR t el 0 n))) (l0 el n),true,false,0⟩])))
   (Bool.and (Nat.beq g' g) (Bool.and (Nat.beq et' et) (Nat.beq es' t.es)))
 |_,_=>.fail
theorem Hc9(l:List α)(j:Nat)(h:j<l.length):l.toArray[j]! = l[j]:=by
 rw[getElem!_pos l.toArray j (by simpa using h)]
 simp
theorem uf8 {f : FuncId} {et : Nat} {srt : List α → List α} (hcall : zb6 P f) (hes : 0 < t.es) (he : ∀ x, t.row x = (enc x).map .v) (hx : ∀ r, t.ok r = true → r = t.row (t.rd r)) (h1 : ∀ x, ∀ v ∈ enc x, v.oneCell' = true)
  (hlen:∀l,(srt l).length=l.length) (hcl:∀blk off size w,CmpLays P g #[] enc t.es cf blk off size w)
  (hcon:∀(blk cap:Nat) (d:Array α) (w:World),(∀off size,CmpLays P g #[] enc t.es cf blk off size w)->HoldsK enc t.es w blk 0 d->blk<w.heap.size->d.size<4611686018427387904 ->
   Calls P f #[.slice (some ⟨blk,0,none⟩) d.size cap,.func (.func g) #[] #[]] w λe w'=>e=.returned (.tuple #[])/\∃n os,w'=sortWorldK enc t.es w blk 0 n (srt d.toList).toArray os) :
  g9 P G f (af7 t g et srt):=by
 intro args blks r out hr W ρ F w args' hH hl hargs hG;refine⟨hcall,?_⟩;unfold af7 at hr
 split at hr
 case h_2=>cases hr
 rename_i n g' et' es' el;cases hb0:Bool.and (Nat.beq g' g) (Bool.and (Nat.beq et' et) (Nat.beq es' t.es)) with
 |false=>rw[hb0] at hr;cases hr
 |true =>
 rw[hb0] at hr;rw[Qju,Qju] at hb0;have q1:=Qjt hb0.1;have q2:=Qjt hb0.2.1;have q3:=Qjt hb0.2.2;subst q1 q2 q3;obtain⟨hg0,hr⟩:=DT.run_guard_some hr;rw[Qju,Qju] at hg0;have hroom:n<=room:=Qjaq hg0.1;have hn:=Qjaq hg0.2.1;rw[n7] at hn;have hok:=hg0.2.2;injection hr with hr;injection hr with p1 p2;subst p1 p2
 match args',hl with
 |[v0,v1],_ =>
 obtain⟨a,cap,b,rfl,hb,hd,_,hncap,hspot,hcap,hq⟩:=Ra0 (hargs 0 _ _ rfl rfl);obtain⟨vs1,rfl,hvs1,_⟩:=Tb1 (hargs 1 _ _ rfl rfl);have hvs1:vs1=#[]:=Array.eq_empty_of_size_eq_zero (by simpa using hvs1.symm)
 subst hvs1;rw[yb0] at *
 have hb:b=⟨et',t.es,el,true,false,0⟩:=by simpa using hb.symm
 subst hb;obtain⟨ha,hsz,hne⟩:=hq rfl;have ha:a=⟨(ρ 0).blk,(ρ 0).off+0*t.es,none⟩:=ha.resolve_left λh=>by omega
 obtain⟨cc,tt,fr,hB⟩:=hH.blk 0 _ rfl rfl;obtain⟨hfr,hW,hoff,hsize,hnF,het⟩:=hB.own rfl;subst hfr;rw[hoff,Nat.zero_mul,Nat.add_zero] at ha;subst ha;generalize hbk:(ρ 0).blk=blk at *
 -- the rows asq data
 have hrow:∀j,j<n->l5 el j=(enc (gL t (slR t el 0 n) j)).map .v:=λj hj=>by
  have h2:t.ok (l5 el (0+j))=true:=List.all_eq_true.1 hok j (by simpa using hj)
  rw[Qja] at h2;rw[<- he,slR,we8 t _ hj,Qja];exact hx _ h2
 have hld:(slR t el 0 n).length=n:=Md9 ..;have hk:∀x,(enc x).length=t.es:=λx=>by have:=t.h0 x;rw[n7,he] at this;simpa using this
 have hlt:blk<w.heap.size:=by
  have:=hB.obj
  rcases Nat.lt_or_ge blk w.heap.size with h|h
  ·exact h
  ·rw[hbk,Qjao h] at this;cases this
 have hobj:w.heap[blk]?=some (.cells cc tt (0,0)):=by rw[<- hbk];exact hB.obj
 have hgd:∀(l:List α) (j:Nat) (h:j<l.length),gL t l j=l[j]:=λl j h=>by simp[gL,Qjw,Qjk h]
 have hdm:∀q,q<n*t.es->q / t.es<n/\q % t.es<t.es/\(q / t.es)*t.es+q % t.es=q:=λq hq=>⟨Nat.div_lt_of_lt_mul (by rw[Nat.mul_comm];exact hq),Nat.mod_lt _ hes,Nat.div_add_mod' q t.es⟩
 have hrowAt:∀j,j<el.length->el[j]?=some (l5 el j):=λj hj=>by
  unfold l5;rw[C4,Qjk hj]
 have hH0:HoldsK enc t.es w blk 0 (slR t el 0 n).toArray:=by
  intro q hq;have hq:q<n*t.es:=by rw[size_flatK] at hq;simpa [hld] using hq
  obtain⟨e1,e2,e3⟩:=hdm q hq;rw[get_flatK _ _ _ _ (by simpa [hld] using hq),Hc9 _ _ (by rw[hld];exact e1),<- hgd _ _ (by rw[hld];exact e1)]
  have hcx:(l5 el (q / t.es))[q % t.es]?=some (.v ((enc (gL t (slR t el 0 n) (q / t.es)))[q % t.es]!)):=by
   rw[hrow _ e1,Qjz,Qjk (by rw[hk];exact e2),getElem!_pos _ _ (by rw[hk];exact e2)]
   rfl
  obtain⟨x',h5,h6⟩:=hB.cell (q / t.es) _ (q % t.es) _ (hrowAt _ (by omega)) hcx
  have h6:x'=(enc (gL t (slR t el 0 n) (q / t.es)))[q % t.es]! :=by cases h6;rfl
  subst h6;rw[hoff] at h5;simp only[e3,Qja] at h5;constructor
  ·simp only[World.cell?,hobj,Qja];simpa using h5
  ·simp[World.frozen?,hobj]
 have hds:(slR t el 0 n).toArray.size=n:=by simpa using hld
 have hmax:n<4611686018427387904:=by unfold room at hroom;omega
 have hcalls:=hcon blk cap (slR t el 0 n).toArray w (λoff size=>hcl blk off size w) hH0 hlt (by rw[hds];exact hmax)
 rw[hds] at hcalls;refine hcalls.mono λe w' ⟨h5,m,os,h6⟩=>⟨_,h5,ρ,F,?_⟩
 generalize hsd:srt (slR t el 0 n)=sd at *
 have hsl:sd.length=n:=by rw[<- hsd,hlen,hld]
 have h6:w'=grow (mapBlock (Sort.ahead w m) blk (putCells id 0 (flatK enc t.es sd.toArray))) os:=h6;have hw'size:w'.heap.size=w.heap.size+os.size:=by rw[h6];simp[mapBlock]
 have hold:∀k,k<w.heap.size->k≠blk->w'.heap[k]?=w.heap[k]?:=λk h7 h8=>by
  rw[h6];simp only[grow,mapBlock];rw[Qjx (by simpa using h7),Qjar]
  simp[Ne.symm h8]
 have hnew:w'.heap[blk]?=some (.cells (putCells id 0 (flatK enc t.es sd.toArray) cc) tt (0,0)):=by
  rw[h6];simp only[grow,mapBlock];rw[Qjx (by simpa using hlt),Qjar]
  simp[hobj,onCells]
 have hcells:∀b o,F b o->w'.cell? ⟨b,o,none⟩=w.cell? ⟨b,o,none⟩:=λb o hf=>by
  have h7:b≠blk:=λh8=>hnF o (h8 ▸ hf)
  have:=Sb9 (hH.frz b o hf)
  simp only[World.cell?,hold b this h7]
 have hpc:∀q,q<cc.size->(putCells id 0 (flatK enc t.es sd.toArray) cc)[q]?=if q<n*t.es then some ((enc sd.toArray[q / t.es]!)[q % t.es]!) else cc[q]?:=λq hq=>by
  simp only[putCells,Array.getElem?_mapIdx,Array.getElem?_eq_getElem hq,Option.map_some,size_flatK,Qjy,true_and,Qja,Nat.sub_zero,id]
  have:sd.toArray.size=n:=by simpa using hsl
  rw[this];split
  ·next h7=>rw[get_flatK _ _ _ _ (by rw[this];exact h7)]
  ·rfl
 have hel:(app (bL t sd) (l0 el n)).length=el.length:=by
  rw[G7,Qjc,<- n7 (bL t sd),S6,hsl,O0,Qjv];omega
 have hnrow:∀(j:Nat) r,(app (bL t sd) (l0 el n))[j]?=some r->(j<n/\r=t.row (gL t sd j))\/(n<=j/\el[j]?=some r):=λj r hr=>by
  have hlb:(bL t sd).length=n:=by rw[<- n7,S6,hsl]
  rw[G7] at hr
  rcases Nat.lt_or_ge j n with h7|h7
  ·rw[List.getElem?_append_left (by omega)] at hr
   left;refine⟨h7,?_⟩;unfold bL at hr;rw[p5,Qjz,Qjk (by omega)] at hr
   injection hr with hr;rw[<- hr,hgd sd j (by omega)]
  ·rw[List.getElem?_append_right (by omega),hlb,O0,List.getElem?_drop] at hr
   right;exact⟨h7,by rw[<- hr];congr 1;omega⟩
 have hcs:el.length*t.es<=cc.size:=by have:=hB.len;rw[hsize] at this;exact this
 refine⟨⟨⟨?_,?_,?_,by omega,λk h7 h8=>hold k h7 λh9=>h8 (h9 ▸ hW),hcells,?_⟩,λid b hb=>?_,λ_ _ h=>h,λ_ _ h=>.inl h,λid b' hb' hn'=>?_⟩,⟨λid b hb hd'=>?_,λid id' b b' hb hb' h7 h8 h9 h10=>?_,λb o hf=>by rw[hcells b o hf];exact hH.frz b o hf,λk hk'=>hH.new k (by omega)⟩,.ofv _⟩
 ·rw[h6];rfl
 ·rw[h6];rfl
 ·rw[h6];rfl
 ·rw[h6];exact Nat.le_add_right _ _
 ·match id,hb with
  |0,hb =>
   cases hb;exact⟨_,rfl,rfl,Qjj _,λ_=>⟨rfl,rfl,by simp only[hel];exact Qjj _⟩⟩
 ·match id,hb' with
  |0,hb'=>cases hb';exact absurd rfl (hn' ⟨et',t.es,el,true,false,0⟩ rfl)
 ·match id,hb with
  |0,hb =>
   cases hb;refine⟨_,tt,(0,0),by rw[hbk];exact hnew,?_,?_,?_,?_,λ_=>⟨rfl,by rw[hbk];exact hW,hoff,?_,by rw[hbk];exact hnF,het⟩,λh=>by cases h⟩
   ·rw[hoff,hsize];simp[putCells]
   ·simp only[hel];exact hB.len
   ·intro j r hr
    rcases hnrow j r hr with⟨_,h8⟩|⟨_,h8⟩
    ·rw[h8,<- n7];exact t.h0 _
    ·exact hB.rows j r h8
   ·intro j r c x hr hc;rw[hoff,Qja]
    rcases hnrow j r hr with⟨h7,h8⟩|⟨h7,h8⟩
    ·subst h8;have hclt:c<t.es:=by
      have:=(List.getElem?_eq_some_iff.1 hc).1
      rw[<- n7,t.h0] at this;exact this
     have hq:j*t.es+c<n*t.es:=by
      have:=Qjad t.es (show j+1<=n from h7)
      rw[Nat.add_mul,Nat.one_mul] at this;omega
     have hqn:n*t.es<=el.length*t.es:=Qjad _ hn;have e1:(j*t.es+c) / t.es=j:=by rw[Nat.mul_comm,Nat.mul_add_div hes,Nat.div_eq_of_lt hclt,Nat.add_zero]
     have e2:(j*t.es+c) % t.es=c:=by rw[Nat.mul_comm,Nat.mul_add_mod,Nat.mod_eq_of_lt hclt]
     rw[he,Qjz,Qjk (by rw[hk];exact hclt)] at hc
     injection hc with hc;subst hc;refine⟨(enc (gL t sd j))[c]'(by rw[hk];exact hclt),?_,.v _ (h1 _ _ (List.getElem_mem _))⟩
     rw[hpc _ (Nat.lt_of_lt_of_le hq (Nat.le_trans hqn hcs)),if_pos hq,e1,e2,Hc9 _ _ (by omega),hgd sd j (by omega),getElem!_pos _ _ (by rw[hk];exact hclt)]
    ·obtain⟨x',h9,h10⟩:=hB.cell j r c x h8 hc;rw[hoff,Qja] at h9;have hq:¬ j*t.es+c<n*t.es:=by
      have:=Qjad t.es h7
      omega
     have hlt':j*t.es+c<cc.size:=(Array.getElem?_eq_some_iff.1 h9).1;exact⟨x',by rw[hpc _ hlt',if_neg hq];exact h9,h10.adv (λ_ _ h=>h) hcells⟩
   ·rw[hsize];simp[putCells]
 ·match id,hb,id',hb' with
  |0,hb,0,hb'=>exact absurd rfl h10
end
end Go.Ev.L
namespace Go.Proofs
open Go.Shelf
set_option maxRecDepth 100000 in
def Ce.sortLay_ren:Go.Shelf.Ren:=⟨fun | 6=>121 | 15=>180 | 14=>179 | 28=>207 | 29=>208 | 20=>199 | 21=>200 | 22=>201 | 23=>202 | 24=>203 | 25=>204 | 26=>205 | 27=>206 | 46=>223 | 47=>224 | 48=>225 | 49=>226 | 50=>227 | 57=>233 | n=>n,fun | 22=>24 | 24=>73 | 25=>148 | 3=>3 | 39=>173 | 0=>0 | 53=>197 | 55=>199 | 4=>4 | 46=>191 | 45=>190 | 50=>50 | 5=>5 | 9=>9 | 66=>210 | 70=>214 | 76=>218 | 77=>219 | n=>n,fun | n=>n⟩
set_option maxRecDepth 100000 in
theorem Ce.sortLay:Go.Proofs.SlLaysF0.n6 Tryz.prog Ce.sortLay_ren:={
 mixed:=by kernel_rfl
 f6:=⟨Tryz.f121.name,by decide,Tryz.func121.trans (congrArg some (by kernel_rfl))⟩
 f14:=⟨Tryz.f179.name,by decide,Tryz.func179.trans (congrArg some (by kernel_rfl))⟩
 f15:=Tryz.func180.trans (congrArg some (by kernel_rfl))
 f20:=⟨Tryz.f199.name,by decide,Tryz.func199.trans (congrArg some (by kernel_rfl))⟩
 f21:=⟨Tryz.f200.name,by decide,Tryz.func200.trans (congrArg some (by kernel_rfl))⟩
 f22:=⟨Tryz.f201.name,by decide,Tryz.func201.trans (congrArg some (by kernel_rfl))⟩
 f23:=⟨Tryz.f202.name,by decide,Tryz.func202.trans (congrArg some (by kernel_rfl))⟩
 f24:=⟨Tryz.f203.name,by decide,Tryz.func203.trans (congrArg some (by kernel_rfl))⟩
 f25:=⟨Tryz.f204.name,by decide,Tryz.func204.trans (congrArg some (by kernel_rfl))⟩
 f26:=⟨Tryz.f205.name,by decide,Tryz.func205.trans (congrArg some (by kernel_rfl))⟩
 f27:=⟨Tryz.f206.name,by decide,Tryz.func206.trans (congrArg some (by kernel_rfl))⟩
 f28:=Tryz.func207.trans (congrArg some (by kernel_rfl))
 f29:=Tryz.func208.trans (congrArg some (by kernel_rfl))
 f46:=⟨Tryz.f223.name,by decide,Tryz.func223.trans (congrArg some (by kernel_rfl))⟩
 f47:=Tryz.func224.trans (congrArg some (by kernel_rfl))
 f48:=Tryz.func225.trans (congrArg some (by kernel_rfl))
 f49:=⟨Tryz.f226.name,by decide,Tryz.func226.trans (congrArg some (by kernel_rfl))⟩
 f50:=⟨Tryz.f227.name,by decide,Tryz.func227.trans (congrArg some (by kernel_rfl))⟩
 f57:=⟨Tryz.f233.name,by decide,Tryz.func233.trans (congrArg some (by kernel_rfl))⟩
 t0:=Tryz.underlying0
 a0:=Tryz.isAgg0
 z0:=Tryz.sizeOf0
 v0:=Tryz.zeroValue0
 t3:=Tryz.underlying3
 a3:=Tryz.isAgg3
 z3:=Tryz.sizeOf3
 v3:=Tryz.zeroValue3
 t4:=Tryz.underlying4
 a4:=Tryz.isAgg4
 z4:=Tryz.sizeOf4
 v4:=Tryz.zeroValue4
 t5:=Tryz.underlying5
 a5:=Tryz.isAgg5
 z5:=Tryz.sizeOf5
 v5:=Tryz.zeroValue5
 t9:=Tryz.underlying9
 a9:=Tryz.isAgg9
 z9:=Tryz.sizeOf9
 v9:=Tryz.zeroValue9
 t22:=Tryz.underlying24
 a22:=Tryz.isAgg24
 z22:=Tryz.sizeOf24
 v22:=Tryz.zeroValue24
 t25:=Tryz.underlying148
 a25:=Tryz.isAgg148
 z25:=Tryz.sizeOf148
 v25:=Tryz.zeroValue148
 t39:=Tryz.underlying173
 a39:=Tryz.isAgg173
 z39:=Tryz.sizeOf173
 v39:=Tryz.zeroValue173
 t45:=Tryz.underlying190
 a45:=Tryz.isAgg190
 z45:=Tryz.sizeOf190
 v45:=Tryz.zeroValue190
 t46:=Tryz.underlying191
 a46:=Tryz.isAgg191
 z46:=Tryz.sizeOf191
 v46:=Tryz.zeroValue191
 t50:=Tryz.underlying50
 a50:=Tryz.isAgg50
 z50:=Tryz.sizeOf50
 v50:=Tryz.zeroValue50
 t53:=Tryz.underlying197
 a53:=Tryz.isAgg197
 z53:=Tryz.sizeOf197
 v53:=Tryz.zeroValue197
 t55:=Tryz.underlying199
 a55:=Tryz.isAgg199
 z55:=Tryz.sizeOf199
 v55:=Tryz.zeroValue199
 t66:=Tryz.underlying210
 a66:=Tryz.isAgg210
 z66:=Tryz.sizeOf210
 v66:=Tryz.zeroValue210
 t70:=Tryz.underlying214
 a70:=Tryz.isAgg214
 z70:=Tryz.sizeOf214
 v70:=Tryz.zeroValue214
 t76:=Tryz.underlying218
 a76:=Tryz.isAgg218
 z76:=Tryz.sizeOf218
 v76:=Tryz.zeroValue218
 t77:=Tryz.underlying219
 a77:=Tryz.isAgg219
 z77:=Tryz.sizeOf219
 v77:=Tryz.zeroValue219 }
end Go.Proofs
namespace Go.Ev.Ce
open Go Go.Ev Go.Ev.L Go.Proofs Go.Sort
def qb1(x y:Int):Int:=if x<y then -1 else if x>y then 1 else 0
def ma7(x y:Pln):Int :=
 if qb1 x.n.x y.n.x=0 then if qb1 x.n.y y.n.y=0 then if qb1 x.n.z y.n.z=0 then qb1 x.b y.b else qb1 x.n.z y.n.z else qb1 x.n.y y.n.y else qb1 x.n.x y.n.x
theorem cd5(x y:Int):qb1 x y<0↔x<y:=by unfold qb1;split<;>(try split)<;>omega
theorem Rd7(x y:Int):qb1 x y=0↔x=y:=by unfold qb1;split<;>(try split)<;>omega
def LtP(x y:Pln):Prop:=x.n.x<y.n.x\/x.n.x=y.n.x/\(x.n.y<y.n.y\/x.n.y=y.n.y/\(x.n.z<y.n.z\/x.n.z=y.n.z/\x.b<y.b))
instance(x y:Pln):Decidable (LtP x y):=by unfold LtP;exact inferInstance
theorem Rd8(x y:Pln):ma7 x y<0↔LtP x y:=by
 have h1:=cd5 x.n.x y.n.x;have h2:=Rd7 x.n.x y.n.x;have h3:=cd5 x.n.y y.n.y;have h4:=Rd7 x.n.y y.n.y;have h5:=cd5 x.n.z y.n.z;have h6:=Rd7 x.n.z y.n.z;have h7:=cd5 x.b y.b;unfold ma7 LtP;split
 ·split
  ·split<;>omega
  ·omega
 ·omega
theorem jb7(x y:Pln):ltOf ma7 x y=decide (LtP x y):=by
 unfold ltOf;rw[decide_eq_decide];exact Rd8 x y
theorem Xf4:SWO (ltOf ma7) where
 irrefl x:=by rw[jb7];simp[LtP]
 trans x y z h1 h2:=by rw[jb7,decide_eq_true_eq] at *;unfold LtP at *;omega
 ntrans x y z h1 h2:=by rw[jb7,decide_eq_false_iff_not] at *;unfold LtP at *;omega
theorem kg5(x y:Pln)(h1:ltOf ma7 x y=false)(h2:ltOf ma7 y x=false):x=y:=by
 rw[jb7,decide_eq_false_iff_not] at *
 unfold LtP at *
 obtain⟨⟨a,b,c⟩,d⟩:=x;obtain⟨⟨a',b',c'⟩,d'⟩:=y
 simp only at *
 have:a=a'/\b=b'/\c=c'/\d=d':=by omega
 obtain⟨rfl,rfl,rfl,rfl⟩:=this;rfl
theorem he4(x y:Int):Ta9 x y=some (i (qb1 x y),[]):=by
 unfold Ta9 qb1;simp only[Ab1,decide_eq_true_eq]
 split<;>(try split)<;>rfl
theorem uf9(x y:Int):xa2 x y=qb1 x y:=by unfold xa2;rw[he4];rfl
theorem vf0(x y:Int):xa3 x y=true:=by unfold xa3;rw[he4];rfl
theorem od5(x y:Pln):Fa6 x y=some (i (ma7 x y),[]):=by
 unfold Fa6 ma7;simp only[uf9,vf0,Ab1,beq_iff_eq,if_true]
 repeat' (first | rfl | split)
theorem Xf5(x y:Pln):Va9 x y=ma7 x y:=by unfold Va9;rw[od5];rfl
theorem Xf6(x y:Pln):Wa0 x y=true:=by unfold Wa0;rw[od5];rfl
theorem Xf7(x y:Pln):(tb6 [.agg (tP.row x),.agg (tP.row y)] []).run=some (i (ma7 x y),[]):=by
 have:(tb6 [.agg (tP.row x),.agg (tP.row y)] []).run=sel (Wa0 x y) (some (i (Va9 x y),[])) none:=by kernel_rfl
 rw[this,Xf6,Xf5]
def Mc5(p:Pln):List Value:=[.int .i64 p.n.x,.int .i64 p.n.y,.int .i64 p.n.z,.int .i64 p.b]
instance:Inhabited Pln:=⟨⟨⟨0,0,0⟩,0⟩⟩
def Ya9(l:List Pln):List Pln:=l.mergeSort λx y=>!ltOf ma7 y x
theorem pc3(l:List Pln):(Ya9 l).length=l.length:=List.length_mergeSort l
noncomputable def Aa2:Sum:=af7 tP 122 73 Ya9
theorem af8:Ce.sortLay_ren.f 6=121:=by kernel_rfl
theorem Gd6:Ce.sortLay_ren.t 24=73:=by kernel_rfl
set_option maxRecDepth 100000 in
theorem Ua1:g9 prog G 121 Aa2:=by
 refine uf8 (enc:=Mc5) (cf:=ma7) ⟨_,Tryz.func121,by kernel_rfl,of_decide_eq_true (by kernel_rfl)⟩ (by decide) (λ_=>rfl) (λr h=>hb8 (n:=4) h) (λx v hv=>?_) pc3
  (λblk off size w=>uf7 Pc3 Xf7 (λ_=>rfl) (λ_=>rfl) _ _ _ _ _) (λblk cap d w hcl hH hb hs=>?_)
 ·simp[Mc5] at hv
  rcases hv with rfl|rfl|rfl|rfl<;>rfl
 ·have eg:∀args w,(callFunc 122 args).run Tryz.prog w=.ok (.enter 122 args) w:=enters_of Tryz.func122 (by kernel_rfl) rfl
  have:=AnyQ.slices_SortFunc Ce.sortLay 4 (by rw[Gd6];exact Tryz.isAgg73) (by rw[Gd6];exact Tryz.sizeOf73) Mc5 (λ_=>rfl) (λx v hv=>by simp[Mc5] at hv;rcases hv with rfl | rfl | rfl | rfl<;>rfl) ma7 Xf4 122 #[] blk 0 cap d w eg (hcl 0 d.size) hH hb hs
  rw[af8] at this;refine this.mono λe w' ⟨h1,d',n,os,h2,h3,h4⟩=>⟨h1,n,os,?_⟩
  have h5:=sorted_unique_holds Xf4 kg5 d d' h2 h3;rw[h4];show _=sortWorldK Mc5 4 w blk 0 n (d.toList.mergeSort λx y=>!ltOf ma7 y x).toArray os
  rw[<- h5]
end Go.Ev.Ce
namespace Go.Ev.Ce
open Go Go.Ev Go.Ev.L Go.Proofs
set_option maxRecDepth 100000
noncomputable def bc7:List (Nat×Sum):=[]
theorem Xb1:i7 prog G bc7:=trivial
structure ua9 where
 (alt ns0:Nat)
 eh0:List (List b7)
noncomputable def V7{α:Type}(kk:ua9->α)(x:Pln×List Pln):α:=(sl (Nat.beq (len (o8 (λk=>(tP).row (gL tP (x.1::x.2) k)) (List.range (List.length x.2+1)))) 0) (kk ⟨1,0,[]⟩) (sl (Nat.beq 0 0&&Nat.ble ((0+(len (o8 (λk=>(tP).row (gL tP (x.1::x.2) k)) (List.range (List.length x.2+1)))))*32) room) (kk ⟨1,(0+(len (o8 (λk=>(tP).row (gL tP (x.1::x.2) k)) (List.range (List.length x.2+1))))),(app [] (o8 (λk=>(tP).row (gL tP (x.1::x.2) k)) (List.range (List.length x.2+1))))⟩) (kk ⟨0,0,[]⟩)))
noncomputable def va0(x:Pln×List Pln):ua9:=V7 (λr=>r) x
noncomputable def Ha6(r:ua9):DT (b7×List b8):=(.ite (Nat.beq r.alt 1) (.ret (.sl 0 0 r.ns0 0,[⟨73,4,r.eh0,true,false,0⟩])) .fail)
theorem kc5{α β:Type}(F:α->β)(kk:ua9->α)(x:Pln×List Pln):F (V7 kk x)=V7 (λr=>F (kk r)) x:=by unfold V7;(repeat' apply l6 (f:=F))<;>rfl
noncomputable def qb2:Sum:=Y0 (Se2 tP) (λx=>Ha6 (va0 x))
theorem bc8:g9 prog G 151 qb2:=Hb9 (bd Jf2 Xb1) λx=>v8 (Qjh (b:=V7 (λr=>(Ha6 r).run) x) (by kernel_rfl) (kc5 (λr=>(Ha6 r).run) (λr=>r) x).symm)
noncomputable def Rd9:List (Nat×Sum):=[(55,Ba3),(113,Ta3),(151,qb2),(150,sa3),(121,Aa2),(154,Ca7)]
theorem yd9:i7 prog G Rd9:=⟨Ca5,cb7,bc8,Ma0,Ua1,Ya8,trivial⟩
noncomputable def qb3(x:Pln×List Pln):Option (b7×List b8):=let t1:=(na7 (rt tP (x.1::x.2)));let t2:=(wa3 (rt tP (x.1::x.2)));let t3:=(va0 (hC tP (λk=>(tP).row (gL tP (x.1::x.2) k)),tC tP (List.length x.2) (λk=>(tP).row (gL tP (x.1::x.2) k))));let t4:=(J1 ⟨t3.ns0,t3.eh0,rt tX t2⟩);let t5:=(Z7 ⟨t4.ns0,app (bL tP (Ya9 (slR tP t4.eh0 0 t4.ns0))) (l0 t4.eh0 t4.ns0)⟩);(sl (okE tP (x.1::x.2)) (sl (na8 (rt tP (x.1::x.2))) (sl (!t1) (some (.v (.slice none 0 0),[])) (sl (okE tP (x.1::x.2)) (sl (wa4 (rt tP (x.1::x.2))) (sl (okL tP (List.length x.2+1) (λk=>(tP).row (gL tP (x.1::x.2) k))) (sl (Nat.beq t3.alt 1) (sl ((cnE tX t2)&&true) (sl (Nat.beq t4.alt 1) (sl (Bool.and (Nat.ble t4.ns0 room) (Bool.and (Nat.ble t4.ns0 (len t4.eh0)) (okS tP t4.eh0 0 t4.ns0))) (sl (Nat.beq t5.alt 1) (some (.sl 0 0 t5.ns0 0,[⟨73,4,t5.eh0,true,false,0⟩])) none) none) none) none) none) none) none) none)) none) none)
noncomputable def Uc7(x:Pln×List Pln):List Pln:=N6 (one (r1L tP)) (qb3 x)
noncomputable def Uc8(x:Pln×List Pln):Bool:=okO (one (r1L tP)) (qb3 x)
noncomputable def he5:Sum:=Y0 (Se2 tP) (λx=>.guard (Uc8 x) (.ret ((one (r1L tP)).enc (Uc7 x),[])))
theorem Sd0:g9 prog G 98 he5:=Ja3 (bd b98 yd9) (one (r1L tP)) (o:=qb3) λx=>v8 (by kernel_rfl)
noncomputable def onc(X:List Pt)(p:Pln):Nat:=X.countP λx=>rm p x==0
noncomputable def keep(X:List Pt)(p:Pln):Bool:=!decide ((onc X p:Int)<3)
theorem od6(p:Pln)(X:List Pt)(hX:X.length<=1000000000):wa9 ⟨p.n.x,p.n.y,p.n.z,p.b,X⟩=⟨1,!keep X p,X⟩:=by
 have h:=Dc6 (step:=za9 ⟨X,(X.length:Int),X,p.n.x,p.n.y,p.n.z,p.b⟩) (mk:=λj (n:Nat)=>(⟨(n:Int),(j:Int)⟩:U3)) (f:=λn x=>if rm p x==0 then n+1 else n) (fin:=1) tX X (λj n=>n<=j) hX
  (λj n hj hi=>by
   have hW:W ((n:Int)+1)=((n+1:Nat):Int):=by rw[ka2 (by omega) (by omega)];omega
   refine⟨?_,by show (if rm p (gL tX X j)==0 then n+1 else n)<=j+1;split<;>omega⟩
   simp only[za9,ua8,Int.toNat_natCast,Pd7,hW,n8 hj (show X.length<=4611686018427387904 by omega)]
   rw[btD (g7 hj),bt (f0 hj)];cases rm p (gL tX X j)==0<;>rfl)
  (λn _=>by simp only[za9,ua8];rw[bfD (l9 (Qjai _))]) 0 (Qjy _) 0 (Qjj _)
 have h:=h.1;have e:∀(l:List Pt) (n:Nat),l.foldl (λn x=>if rm p x==0 then n+1 else n) n=n+l.countP λx=>rm p x==0:=by
  intro l
  induction l with
  |nil=>intro n;rfl
  |cons x l ih =>
   intro n;rw[List.foldl_cons,ih,List.countP_cons]
   split<;>omega
 rw[Qjaf,e,Qja] at h;unfold wa9 Ga9 keep onc;simp only[i5,i8];rw[show (⟨0,0⟩:U3)=⟨((0:Nat):Int),((0:Nat):Int)⟩ from rfl,h]
 show Ga8.mk 1 (decide _) X=Ga8.mk 1 (!(!(decide _))) X;rw[Bool.not_not]
theorem vf1(l:List Pln)(X:List Pt)(hl:l.length<=1000000000)(hX:X.length<=1000000000):ca8 ⟨l.length,bL tP l,X⟩=⟨1,if l.any (λp=>!keep X p) then ((l.findIdx (λp=>!keep X p):Nat):Int) else -1,X⟩:=by
 have h:=Na8 (step:=K8 ⟨l.length,(l.length:Int),bL tP l⟩) (mk:=λj=>(⟨(j:Int),X⟩:q7)) (c:=λp=>!keep X p) (u:=1) (fin:=2) tP l hl
  (λj hj=>by
   simp only[K8,H7,Int.toNat_natCast,i5,i8,cd4 hj,Hc6 hj,od6 _ _ hX,n8 hj (show l.length<=4611686018427387904 by omega)]
   rw[btD (g7 hj),bt (f0 hj)]
   rfl)
  (by simp only[K8,H7];rw[bfD (l9 (Qjai _))]) 0 (Qjy _)
 rw[Qjaf] at h;unfold ca8 I9;simp only[i5,i8];rw[show (⟨0,X⟩:q7)=⟨((0:Nat):Int),X⟩ from rfl,h]
 cases ha:l.any λp=>!keep X p with
 |false=>rfl
 |true =>
  have hf:l.findIdx (λp=>!keep X p)<l.length:=by
   rw[Qjan] at ha;obtain⟨p,hp,hc⟩:=ha;exact Qjab ⟨p,hp,hc⟩
  simp only[if_true,Qja,Int.toNat_natCast,Hc6 hf,od6 _ _ hX,i5];rfl
theorem Ic0{α:Type}(c:α->Bool):∀l:List α,(l.take (l.findIdx c)).filter (λx=>!c x)=l.take (l.findIdx c)
 |[]=>rfl
 |x::l=>by
  rw[Qjaj];cases h:c x with
  |true=>rfl
  |false =>
   simp only[cond_false,List.take_succ_cons,Qjac,h,Bool.not_false,if_true];rw[Ic0 c l]
theorem se8{α:Type}(l:List α)(j:Nat)(h:j<l.length):l.take (j+1)=l.take j++[l[j]]:=by rw[Qjn h]
theorem cd6{α:Type}(t:Ty α){l:List α}{j:Nat}(h:j<l.length):l.take (j+1)=l.take j++[gL t l j]:=by rw[se8 l j h,Ya2 t h]
theorem Pc6{α:Type}(t:Ty α){l r:List α}{j:Nat}(h:l.drop j=r.drop j):gL t l j=gL t r j:=by
 have h1:=Gc6 t l j 0;have h2:=Gc6 t r j 0;rw[Nat.add_zero] at h1 h2;rw[<- h1,<- h2,h]
theorem Ic1{α:Type}{l r:List α}{j:Nat}(h:l.drop j=r.drop j)(k:Nat):l.drop (j+k)=r.drop (j+k):=by rw[<- List.drop_drop,<- List.drop_drop,h]
structure Del(l:List Pln)(f:Pln->Bool)(cur:List Pln)(m j:Nat):Prop where
 len:cur.length=l.length
 t:cur.take m=(l.take j).filter f
 d:cur.drop j=l.drop j
 le:m<=j
 lm:m<=l.length
theorem he6 (l : List Pln) (X : List Pt) (hl : l.length ≤ 1000000000) (hX : X.length ≤ 1000000000) (m j : Nat) (cur : List Pln) (hd : Del l (keep X) cur m j) :
  ∃t s,lp (D9 ⟨l.length⟩) ⟨(m:Int),(j:Int),bL tP cur,X⟩=(t,s)/\(t=1/\∃m' cur' k,s=⟨((m':Nat):Int),((k:Nat):Int),bL tP cur',X⟩/\Del l (keep X) cur' m' k/\l.length<=k):=by
 refine Z6 (step:=D9 ⟨l.length⟩) (mk:=λj (x:Nat×List Pln)=>(⟨(x.1:Int),(j:Int),bL tP x.2,X⟩:u9)) l.length (λj x=>Del l (keep X) x.2 x.1 j) (λt s=>t=1/\∃m' cur' k,s=⟨((m':Nat):Int),((k:Nat):Int),bL tP cur',X⟩/\Del l (keep X) cur' m' k/\l.length<=k) hl (λj x hj hx=>?_) (λj x hj hx=>?_) j (m,cur) hd
 ·obtain⟨m,cur⟩:=x;obtain⟨h1,h2,h3,h4,h5⟩:=hx
  simp only at h1 h2 h3 h4 h5
  have hjc:j<cur.length:=by omega
  have hmc:m<cur.length:=by omega
  have hg:gL tP cur j=gL tP l j:=Pc6 tP h3;have hWm:W ((m:Int)+1)=((m+1:Nat):Int):=by rw[ka2 (by omega) (by omega)];omega
  have hb:Nat.blt m cur.length=true:=by rw[Qjal];exact hmc
  have hrow:l5 (bL tP cur) m=tP.row (gL tP cur m):=V1 tP hmc;have sp:∀(v:Pln) (x1 x2 x3 x4:Int),ea2 (tP.row v) 0 [i x1,i x2,i x3,i x4]=tP.row ⟨⟨x1,x2,x3⟩,x4⟩:=λ_ _ _ _ _=>rfl
  have rl:∀v:Pln,Nat.ble (0+4) (len (tP.row v))=true:=λ_=>rfl
  simp only[D9,H8,Int.toNat_natCast,i5,i8,cd4 hjc,Hc6 hjc,od6 _ _ hX,n8 hj (show l.length<=4611686018427387904 by omega),hWm]
  rw[btD (g7 hj),bt (f0 hj)];simp only[Qja,hrow,S6,hb,sp,fc4,f0 (show m<l.length by omega),hg]
  have ht:=cd6 tP hj;have hd1:cur.drop (j+1)=l.drop (j+1):=Ic1 h3 1;cases hk:keep X (gL tP l j) with
  |true =>
   refine .nx ⟨(m+1,cur.set m (gL tP l j)),rfl,⟨by rw[Qjm];exact h1,?_,?_,by omega,by show m+1<=l.length;omega⟩⟩
   ·show (cur.set m (gL tP l j)).take (m+1)=_;rw[ht,Qjah,Qjn (by rw[Qjm];exact hmc),Qjas,List.take_set_of_le (Qjj _),h2,Qjac,hk,if_pos rfl,List.filter_nil]
   ·show (cur.set m (gL tP l j)).drop (j+1)=_;rw[List.drop_set_of_lt (by omega),hd1]
  |false =>
   refine .nx ⟨(m,cur),rfl,⟨h1,?_,hd1,by omega,h5⟩⟩
   show cur.take m=_;rw[ht,Qjah,h2,Qjac,hk,if_neg (by simp),List.filter_nil,Qjae]
 ·obtain⟨m,cur⟩:=x;refine⟨1,?_,rfl,m,cur,j,rfl,hx,hj⟩;simp only[D9,H8];rw[bfD (by omega)]
theorem Ae3(l:List Pln)(n:Nat):N8 (bL tP l) n=bL tP (l.take n):=by unfold bL;rw[N9,p5,p5,List.map_take]
theorem Sd1(l:List Pln)(n:Nat):l0 (bL tP l) n=bL tP (l.drop n):=by unfold bL;rw[O0,p5,p5,List.map_drop]
theorem Ae4(n:Nat):List.replicate n [i 0,i 0,i 0,i 0]=bL tP (List.replicate n ⟨⟨0,0,0⟩,0⟩):=by unfold bL;rw[p5,List.map_replicate];rfl
theorem Gd7 (l : List Pln) (X : List Pt) (hl : l.length ≤ 1000000000) (hX : X.length ≤ 1000000000) :
  ∃m r,J1 ⟨l.length,bL tP l,X⟩=⟨1,m,bL tP r,X⟩/\m<=r.length/\r.take m=l.filter (keep X)/\r.length=l.length:=by
 unfold J1 J0;simp only[i5,i8,vf1 l X hl hX];cases ha:l.any λp=>!keep X p with
 |false =>
  refine⟨l.length,l,rfl,Qjj _,?_,rfl⟩;rw[List.take_length]
  symm
  rw[List.filter_eq_self];intro p hp
  have:=List.any_eq_false.1 ha p hp
  simpa using this
 |true =>
  have hf:l.findIdx (λp=>!keep X p)<l.length:=by
   rw[Qjan] at ha;obtain⟨p,hp,hc⟩:=ha;exact Qjab ⟨p,hp,hc⟩
  have hk:keep X (gL tP l (l.findIdx λp=>!keep X p))=false:=by
   have:=List.findIdx_getElem (xs:=l) (p:=λp=>!keep X p) (w:=hf)
   rw[Ya2 tP hf];simpa using this
  have ht:=Ic0 (λp=>!keep X p) l
  simp only[Bool.not_not] at ht;generalize hF:l.findIdx (λp=>!keep X p)=F at *
  have hW:W ((F:Int)+1)=((F+1:Nat):Int):=n8 hf (by omega)
  have hne:((F:Int)==-1)=false:=by rw[beq_eq_false_iff_ne];omega
  obtain⟨t,s,e1,rfl,m,cur,k,e2,e3,e4⟩:=he6 l X hl hX F (F+1) l ⟨rfl,by rw[cd6 tP hf,Qjah,ht,Qjac,hk,if_neg (by simp),List.filter_nil,Qjae],rfl,by omega,by omega⟩
  have hm:m<=l.length:=e3.lm;have hin:inB (m:Int) (l.length+1)=true:=f0 (by omega)
  have hfin:cur.take m=l.filter (keep X):=by rw[e3.t,Qjap e4]
  simp only[if_true,hW,hne,e1,e2,Int.toNat_natCast,hin,Qja,Nat.sub_zero];refine⟨m,cur.take m++(List.replicate (l.length-m) ⟨⟨0,0,0⟩,0⟩++cur.drop (m+(l.length-m))),?_,?_,?_,?_⟩
  ·rw[Ae3,Ae4,Sd1,Ra1,Ra1];rfl
  ·rw[Qjc,Qjc,Qjb,Qjat,e3.len];omega
  ·rw[Qjr (by rw[Qjb,e3.len];omega),List.take_take,Nat.min_self,hfin]
  ·rw[Qjc,Qjc,Qjb,Qjat,Qjv,e3.len];omega
def eqP(x y:Pln):Bool:=x.n.x==y.n.x&&(x.n.y==y.n.y&&(x.n.z==y.n.z&&(x.b==y.b&&true)))
theorem Jb3(x y:Pln):eqP x y=true↔x=y:=by
 unfold eqP;simp only[Qjo,Qju,beq_iff_eq];refine⟨λ⟨h1,h2,h3,h4⟩=>?_,λh=>by subst h;exact⟨rfl,rfl,rfl,rfl⟩⟩
 obtain⟨⟨x1,x2,x3⟩,x4⟩:=x;obtain⟨⟨y1,y2,y3⟩,y4⟩:=y
 simp only at h1 h2 h3 h4
 subst h1 h2 h3 h4;rfl
def ddF:Pln->List Pln->List Pln
 |_,[]=>[]
 |a,x::l=>if eqP x a then ddF x l else x::ddF x l
def dd:List Pln->List Pln
 |[]=>[]
 |x::l=>x::ddF x l
theorem Ae5:∀(a:Pln) (l:List Pln),(ddF a l).length<=l.length
 |_,[]=>Qjj _
 |a,x::l=>by
  have:=Ae5 x l
  unfold ddF
  split<;>simp only[List.length_cons]<;>omega
structure Cmp(l:List Pln)(n:Nat)(cur:List Pln)(m j:Nat)(R:List Pln):Prop where
 len:cur.length=l.length
 t:cur.take m++ddF (gL tP l (j-1)) ((l.take n).drop j)=R
 d:cur.drop (j-1)=l.drop (j-1)
 le:m+1<=j
theorem Sd2 (l : List Pln) (n o : Nat) (hn : n ≤ l.length) (hl : l.length ≤ 1000000000) (ho : o < n) (m : Nat) (cur : List Pln) (R : List Pln) (hd : Cmp l n cur m (o + 1) R) :
  ∃t s,lp (u7 ⟨n,0+o,n-o⟩) ⟨(m:Int),((1:Nat):Int),bL tP cur⟩=(t,s)/\(t=1/\∃m' cur' k,s=⟨((m':Nat):Int),k,bL tP cur'⟩/\cur'.length=l.length/\cur'.take m'=R/\m'<=n):=by
 refine Z6 (step:=u7 ⟨n,0+o,n-o⟩) (mk:=λj (x:Nat×List Pln)=>(⟨(x.1:Int),(j:Int),bL tP x.2⟩:r4)) (n-o) (λj x=>Cmp l n x.2 x.1 (o+j) R/\1<=j/\x.1<=n) (λt s=>t=1/\∃m' cur' k,s=⟨((m':Nat):Int),k,bL tP cur'⟩/\cur'.length=l.length/\cur'.take m'=R/\m'<=n) (by omega) (λj x hj hx=>?_) (λj x hj hx=>?_) 1 (m,cur) ⟨hd,Qjj _,by have:=hd.le;show m<=n;omega⟩
 ·obtain⟨m,cur⟩:=x;obtain⟨⟨h1,h2,h3,h4⟩,hj1,hmn⟩:=hx
  simp only at h1 h2 h3 h4 hmn
  have hoj:o+j<n:=by omega
  have hjc:o+j<cur.length:=by omega
  have hjc':o+(j-1)<cur.length:=by omega
  have hmc:m<cur.length:=by omega
  have hg':gL tP cur (o+(j-1))=gL tP l (o+j-1):=by rw[show o+(j-1)=o+j-1 by omega];exact Pc6 tP h3
  have hd1:cur.drop (o+j)=l.drop (o+j):=by have:=Ic1 h3 1;rw[show o+j-1+1=o+j by omega] at this;exact this
  have hg:gL tP cur (o+j)=gL tP l (o+j):=Pc6 tP hd1;have hWm:W ((m:Int)+1)=((m+1:Nat):Int):=by rw[ka2 (by omega) (by omega)];omega
  have hWj:W ((j:Int)-1)=((j-1:Nat):Int):=by rw[ka2 (by omega) (by omega)];omega
  have hb:Nat.blt m cur.length=true:=by rw[Qjal];exact hmc
  have hrow:l5 (bL tP cur) m=tP.row (gL tP cur m):=V1 tP hmc;have sp:∀(v:Pln) (x1 x2 x3 x4:Int),ea2 (tP.row v) 0 [i x1,i x2,i x3,i x4]=tP.row ⟨⟨x1,x2,x3⟩,x4⟩:=λ_ _ _ _ _=>rfl
  have rl:∀v:Pln,Nat.ble 4 (len (tP.row v))=true:=λ_=>rfl
  simp only[u7,O3,Int.toNat_natCast,Qja,hWj,pe2 tP hjc,pe2 tP hjc',pe1 tP hjc,pe1 tP hjc',n8 hj (show n-o<=4611686018427387904 by omega),hWm,hg,hg',hrow,S6,hb,sp,rl,fc4,f0 (show m<n by omega)]
  rw[btD (g7 hj)];simp only[f0 hj,f0 (show j-1<n-o by omega),f9,Bool.and_self]
  rw[show ((gL tP l (o+j)).n.x==(gL tP l (o+j-1)).n.x&&((gL tP l (o+j)).n.y==(gL tP l (o+j-1)).n.y&&((gL tP l (o+j)).n.z==(gL tP l (o+j-1)).n.z&&((gL tP l (o+j)).b==(gL tP l (o+j-1)).b&&true))))=eqP (gL tP l (o+j)) (gL tP l (o+j-1)) from rfl]
  have hcons:(l.take n).drop (o+j)=gL tP l (o+j)::(l.take n).drop (o+(j+1)):=by
   rw[Qjam (by rw[Qjb];omega),List.getElem_take,Ya2 tP (by omega)]
   rfl
  rw[hcons] at h2;have hlast:o+(j+1)-1=o+j:=by omega
  unfold ddF at h2;cases he:eqP (gL tP l (o+j)) (gL tP l (o+j-1)) with
  |true =>
   rw[he] at h2;simp only[if_true] at h2;refine .nx ⟨(m,cur),rfl,⟨⟨h1,?_,?_,by show m+1<=o+(j+1);omega⟩,by omega,hmn⟩⟩
   ·rw[hlast];exact h2
   ·rw[hlast];exact hd1
  |false =>
   rw[he] at h2;simp only[Bool.false_eq_true,if_false] at h2;refine .nx ⟨(m+1,cur.set m (gL tP l (o+j))),rfl,⟨⟨by rw[Qjm];exact h1,?_,?_,by show m+1+1<=o+(j+1);omega⟩,by omega,by show m+1<=n;omega⟩⟩
   ·rw[hlast];show (cur.set m (gL tP l (o+j))).take (m+1)++_=R;rw[Qjn (by rw[Qjm];exact hmc),Qjas,List.take_set_of_le (Qjj _),Qjak]
    exact h2
   ·rw[hlast];show (cur.set m (gL tP l (o+j))).drop (o+j)=_;rw[List.drop_set_of_lt (by omega),hd1]
 ·obtain⟨m,cur⟩:=x;obtain⟨⟨h1,h2,h3,h4⟩,hj1,hmn⟩:=hx
  simp only at h1 h2 h3 h4 hmn
  refine⟨1,?_,rfl,m,cur,_,rfl,h1,?_,hmn⟩
  ·simp only[u7,O3];rw[bfD (by omega)]
  ·rw[Qjaa (by rw[Qjb];omega)] at h2
   unfold ddF at h2;rw[Qjae] at h2;exact h2
theorem od7 (l : List Pln) (n : Nat) (hn : n ≤ l.length) (hl : l.length ≤ 1000000000) :
  ∃m r,Z7 ⟨n,bL tP l⟩=⟨1,m,bL tP r⟩/\m<=r.length/\r.take m=dd (l.take n):=by
 unfold Z7 P6
 simp only
 by_cases h2:(n:Int)<2
 ·rw[btD h2];refine⟨n,l,rfl,hn,?_⟩
  have:n=0\/n=1:=by omega
  rcases this with rfl|rfl
  ·rfl
  ·cases l with
   |nil=>rfl
   |cons x l=>rfl
 ·rw[bfD h2];have h1n:1<=n:=by omega
  have hI : ∀ j, j < n → 1 ≤ j → l.take j ++ ddF (gL tP l (j - 1)) ((l.take n).drop j) = dd (l.take n) →
    (eqP (gL tP l j) (gL tP l (j-1))=true->Cmp l n l j (j+1) (dd (l.take n)))/\(eqP (gL tP l j) (gL tP l (j-1))=false->l.take (j+1)++ddF (gL tP l (j+1-1)) ((l.take n).drop (j+1))=dd (l.take n)):=by
   intro j hj hj1 hR;have hcons:(l.take n).drop j=gL tP l j::(l.take n).drop (j+1):=by
    rw[Qjam (by rw[Qjb];omega),List.getElem_take,Ya2 tP (by omega)]
   rw[hcons] at hR;unfold ddF at hR;constructor
   ·intro he;rw[he] at hR;simp only[if_true] at hR;exact⟨rfl,hR,rfl,Qjj _⟩
   ·intro he;rw[he] at hR;simp only[Bool.false_eq_true,if_false] at hR;rw[cd6 tP (show j<l.length by omega),Qjak]
    exact hR
  have inner:∀k,k<n->1<=k->Cmp l n l k (k+1) (dd (l.take n))->∃m' cur' k',lp (u7 ⟨n,0+k,n-k⟩) ⟨(k:Int),1,bL tP l⟩=(1,⟨((m':Nat):Int),k',bL tP cur'⟩)/\cur'.length=l.length/\cur'.take m'=dd (l.take n)/\m'<=n:=by
   intro k hk hk1 hc;obtain⟨t,s,e1,rfl,m',cur',k',rfl,e2,e3,e4⟩:=Sd2 l n k hn hl hk k l _ hc;exact⟨m',cur',k',e1,e2,e3,e4⟩
  have key:=Z6 (step:=R4 ⟨n,bL tP l⟩) (mk:=λj (_:Unit)=>(⟨(j:Int)⟩:w7)) n (λj _=>1<=j/\j<=n/\l.take j++ddF (gL tP l (j-1)) ((l.take n).drop j)=dd (l.take n))
   (λt s=>(t=1/\∃k:Nat,s=⟨(k:Int)⟩/\k<n/\1<=k/\Cmp l n l k (k+1) (dd (l.take n)))\/(t=2/\l.take n=dd (l.take n))) (by omega) (λj x hj hx=>?_) (λj x hj hx=>?_) 1 () ⟨Qjj _,h1n,by
    cases l with
    |nil=>simp only[List.length_nil] at hn;omega
    |cons x l =>
     cases n with
     |zero=>omega
     |succ n=>rfl⟩
  ·obtain⟨t,s,e1,e2⟩:=key;rw[show (⟨1⟩:w7)=⟨((1:Nat):Int)⟩ from rfl,e1]
   rcases e2 with⟨rfl,k,rfl,hk,hk1,hc⟩|⟨rfl,he⟩
   ·obtain⟨m',cur',k',e2,e3,e4,e5⟩:=inner k hk hk1 hc;simp only[Int.toNat_natCast,e2];simp only[Qja,Nat.sub_zero];refine⟨m',cur'.take m'++(List.replicate (n-m') ⟨⟨0,0,0⟩,0⟩++cur'.drop (m'+(n-m'))),?_,?_,?_⟩
    ·rw[Ae3,Ae4,Sd1,Ra1,Ra1];rfl
    ·rw[Qjc,Qjb,e3];omega
    ·rw[Qjr (by rw[Qjb,e3];omega),List.take_take,Nat.min_self,e4]
   ·exact⟨n,l,rfl,hn,he⟩
  ·obtain⟨hj1,hjn,hR⟩:=hx;obtain⟨i1,i2⟩:=hI j hj hj1 hR;have hWj:W ((j:Int)-1)=((j-1:Nat):Int):=by rw[ka2 (by omega) (by omega)];omega
   have hjl:j<l.length:=by omega
   have hjl':j-1<l.length:=by omega
   simp only[R4,O4,Int.toNat_natCast,hWj,cd4 hjl,cd4 hjl',Hc6 hjl,Hc6 hjl',n8 hj (show n<=4611686018427387904 by omega)]
   rw[btD (g7 hj),bt (f0 hj),bt (f0 (show j-1<n by omega)),bt (f0 (show j<n+1 by omega))]
   simp only[f9];rw[show ((gL tP l j).n.x==(gL tP l (j-1)).n.x&&((gL tP l j).n.y==(gL tP l (j-1)).n.y&&((gL tP l j).n.z==(gL tP l (j-1)).n.z&&((gL tP l j).b==(gL tP l (j-1)).b&&true))))=eqP (gL tP l j) (gL tP l (j-1)) from rfl]
   cases he:eqP (gL tP l j) (gL tP l (j-1)) with
   |false=>exact .nx ⟨(),rfl,by omega,by omega,i2 he⟩
   |true =>
    obtain⟨m',cur',k',e2,e3,e4,e5⟩:=inner j hj hj1 (i1 he);rw[e2];simp only[f0 (show m'<n+1 by omega)]
    exact .ex (.inl ⟨rfl,j,rfl,hj,hj1,i1 he⟩)
  ·obtain⟨hj1,hjn,hR⟩:=hx;refine⟨2,?_,.inr ⟨rfl,?_⟩⟩
   ·simp only[R4,O4];rw[bfD (by omega)]
   ·have:j=n:=by omega
    subst this;rw[Qjaa (by rw[Qjb];omega)] at hR
    unfold ddF at hR;rw[Qjae] at hR;exact hR
theorem af9(l:List Pln)(n:Nat)(hn:n<=l.length):slR tP (bL tP l) 0 n=l.take n:=fc1 tP (by rw[Qjb];omega) λk hk=>by
 rw[Qja,V1 tP (by omega)]
 congr 1;simp[gL,Qjw,List.getElem?_take,hk]
theorem bf0(l:List Pln)(n:Nat)(hn:n<=l.length):okS tP (bL tP l) 0 n=true:=ab5 tP (f:=λk=>gL tP l k) λk hk=>by rw[Qja,V1 tP (by omega)]
noncomputable def lean(c:List Pln):List Pln:=if ful c then dd (Ya9 (c.filter (keep (pts c)))) else []
theorem Ae6(p:Pln)(c:List Pln)(hc:c.length<=1000000):Rd (one (r1L tP)) (qb3 (p,c)) (λr=>r=lean (p::c)):=by
 have hl:(p::c).length<=1000000000:=by simp only[List.length_cons];omega
 have hX:=cd3 (p::c);unfold qb3 lean;simp only[i5,o5,i8,Pf9,Qf0,xc8 hl,xc9 hl,Gc7 hl,Gc8 hl];cases hf:ful (p::c) with
 |false=>exact⟨_,[],rfl,rfl,rfl⟩
 |true =>
  have ec:o8 (λk=>tP.row (gL tP (p::c) k)) (List.range (c.length+1))=bL tP (p::c):=Ab2 tP (p::c)
  have hcl:va0 (p,c)=⟨1,(p::c).length,bL tP (p::c)⟩:=by
   unfold va0 V7;simp only[ec,S6];have z:Nat.beq (p::c).length 0=false:=rfl;have r:Nat.ble ((0+(p::c).length)*32) room=true:=fa0 (by simp only[List.length_cons];omega)
   rw[z,r,Qja];rfl
  obtain⟨m,r,e1,e2,e3,e4⟩:=Gd7 (p::c) (pts (p::c)) hl (by omega)
  have hm:m<=(p::c).length:=by
   have h1:=congrArg List.length e3;have h2:=List.length_filter_le (keep (pts (p::c))) (p::c);rw[Qjb] at h1;omega
  have hs:(Ya9 (r.take m)).length=m:=by rw[pc3,Qjb];omega
  have hrows:app (bL tP (Ya9 (r.take m))) (l0 (bL tP r) m)=bL tP (Ya9 (r.take m)++r.drop m):=by rw[Sd1,Ra1]
  have hok:okL tP (c.length+1) (λk=>tP.row (gL tP (p::c) k))=true:=ab5 tP (f:=λk=>gL tP (p::c) k) λ_ _=>rfl
  simp only[hcl,e1,af9 r m e2,bf0 r m e2,hrows,hok];obtain⟨m2,r2,k1,k2,k3⟩:=od7 (Ya9 (r.take m)++r.drop m) m (by rw[Qjc,hs];omega) (by rw[Qjc,hs,Qjv,e4];omega)
  rw[k1,S6];have q1:Nat.ble m room=true:=by rw[Nat.ble_eq];unfold room;simp only[List.length_cons] at hm;omega
  have q2:Nat.ble m r.length=true:=by rw[Nat.ble_eq];exact e2
  rw[q1,q2];have hfin:r2.take m2=dd (Ya9 ((p::c).filter (keep (pts (p::c))))):=by
   rw[k3,Qjr (by rw[hs];omega),Qjap (by rw[hs];omega),e3]
  exact af4 k2 rfl hfin
theorem Lf2(p:Pln)(c:List Pln)(hc:c.length<=1000000):Uc7 (p,c)=lean (p::c):=(Ae6 p c hc).p
theorem Lf3(p:Pln)(c:List Pln)(hc:c.length<=1000000):Uc8 (p,c)=true:=(Ae6 p c hc).g
end Go.Ev.Ce
namespace Go.Ev.Ce
open Go Go.Ev Go.Ev.L Go.Proofs Go.Sort
theorem od8(l:List Pln):List.Perm (Ya9 l) l:=List.mergeSort_perm l _
theorem Je2(x y z:Pln)(h1:(!ltOf ma7 y x)=true)(h2:(!ltOf ma7 z y)=true):(!ltOf ma7 z x)=true:=by
 simp only[Bool.not_eq_true',jb7,decide_eq_false_iff_not] at *
 unfold LtP at *
 omega
theorem Je3(x y:Pln):((!ltOf ma7 y x)||!ltOf ma7 x y)=true:=by
 simp only[Bool.or_eq_true,Bool.not_eq_true',jb7,decide_eq_false_iff_not];unfold LtP;omega
theorem Sd3(l:List Pln):(Ya9 l).Pairwise λx y=>(!ltOf ma7 y x)=true:=List.pairwise_mergeSort Je2 Je3 l
instance:DecidableEq Pln:=λx y=>decidable_of_iff _ (Jb3 x y)
def PC:List Pt:=[⟨0,0,0,1⟩,⟨0,0,1,4⟩,⟨0,1,0,3⟩,⟨1,0,0,2⟩]
theorem se9:ful []=true:=by kernel_rfl
end Go.Ev.Ce
namespace Go.Ev.Ce
open Go Go.Ev Go.Ev.L Go.Proofs
set_option maxRecDepth 100000
noncomputable def od9:List (Nat×Sum):=[(182,Mb9)]
theorem he7:i7 prog G od9:=⟨jc6,trivial⟩
structure qb4 where
 b9:List Pln
 (f7 d8 f8 i9:Int)
structure va1 where
 is5:Int
noncomputable def Ic2(p:qb4)(s:va1):St:=⟨eL tP p.b9::.unk::.unk::.ptr 0 0 0 0::.unk::i s.is5::ra 43 [],[⟨0,4,[[i p.f7,i p.d8,i p.f8,i p.i9]],true,false,0⟩]⟩
noncomputable def Ua2{α:Type}(k:va1->α)(e:Nat->α)(z:α)(p:qb4)(s:va1):α:=let t1:=(fa5 (gL tP p.b9 s.is5.toNat) (⟨(⟨p.f7,p.d8,p.f8⟩:V3),p.i9⟩:Pln));(sl (decide (s.is5<(↑(List.length p.b9):Int))) (sl (inB s.is5 (List.length p.b9)) (sl (lb6 (gL tP p.b9 s.is5.toNat) (⟨(⟨p.f7,p.d8,p.f8⟩:V3),p.i9⟩:Pln)) (sl (decide (t1<0)) (k ⟨W (s.is5+1)⟩) (e 1)) z) z) (e 2))
noncomputable def Oa7(p:qb4)(s:va1):Stp va1:=Ua2 .next .exit .fail p s
noncomputable def kc6:Lo qb4 va1:=⟨En od9,0,Cf0,[1,1,0,4,4],[0,3,5],.p,[⟨sLq tP::sUq::sUq::sPq 0::sUq::sIq::ru2 43 [],[⟨0,4,true,some [kLq 4]⟩],λa H=>(⟨aLq tP a 0,hIq H 0 0 0,hIq H 0 0 1,hIq H 0 0 2,hIq H 0 0 3⟩,⟨aIq a 5⟩)⟩],Oa7,[(some 0,λp s=>let t1:=(fa5 (gL tP p.b9 s.is5.toNat) (⟨(⟨p.f7,p.d8,p.f8⟩:V3),p.i9⟩:Pln));⟨eL tP p.b9::.unk::.unk::.ptr 0 0 0 0::.unk::i s.is5::.unk::i s.is5::eL tP p.b9::i (↑(List.length p.b9):Int)::b (decide (s.is5<(↑(List.length p.b9):Int)))::b true::eL tP p.b9::i s.is5::.tptr [i (gL tP p.b9 s.is5.toNat).n.x,i (gL tP p.b9 s.is5.toNat).n.y,i (gL tP p.b9 s.is5.toNat).n.z,i (gL tP p.b9 s.is5.toNat).b]::.agg [i (gL tP p.b9 s.is5.toNat).n.x,i (gL tP p.b9 s.is5.toNat).n.y,i (gL tP p.b9 s.is5.toNat).n.z,i (gL tP p.b9 s.is5.toNat).b]::.agg [i p.f7,i p.d8,i p.f8,i p.i9]::i t1::b (decide (t1<0))::b (decide (t1<0))::ra 29 [],[⟨0,4,[[i p.f7,i p.d8,i p.f8,i p.i9]],true,false,0⟩]⟩),(some 0,λp s=>upq (Ic2 p s) [(7,i s.is5),(8,eL tP p.b9),(9,i (↑(List.length p.b9):Int)),(10,b (decide (s.is5<(↑(List.length p.b9):Int)))),(11,b false),(12,u),(13,u),(14,u),(15,u),(16,u),(17,u),(18,u),(19,b false)])],Ic2⟩
theorem Sd4:kc6.Ok:=Lo.ok [] (by kernel_rfl) .nil rfl (.cons (λa H=>by kernel_rfl) .nil) λp s=>(.of @Ua2 (λF _ _ _ _ _=>by unfold Ua2;(repeat' apply l6 (f:=F))<;>rfl) (by kernel_rfl))
noncomputable def Rb3(x:List Pln)(y:Pln):Option (b7×List b8):=let t1:=(lp (Oa7 (⟨rt tP x,y.n.x,y.n.y,y.n.z,y.b⟩:qb4)) (⟨0⟩:va1));let a0:=(o8 (λk=>(λk=>(tP).row (gL tP (rt tP x) k)) (0+k)) (List.range (t1.2.is5.toNat-0)));let a1:=(o8 (λk=>(λk=>(tP).row (gL tP (rt tP x) k)) (t1.2.is5.toNat+k)) (List.range ((List.length (rt tP x))-t1.2.is5.toNat)));let a2:=(inB t1.2.is5 ((List.length (rt tP x))+1));let a3:=(Nat.beq (0+(len a0)) (len (app [] a0))&&Nat.ble (((0+(len a0))+1)*32) room);let a4:=(((0+(len a0))+1)+(len a1));let a5:=(gL tP (rt tP x) t1.2.is5.toNat);let a6:=(Nat.beq 1 1&&Nat.ble ((1+(len a1))*32) room);let a7:=(Nat.beq 0 0&&Nat.ble ((0+(len a0))*32) room);let w0:Option (b7×List b8):=(sl a2 (sl (Nat.beq (len a0) 0) (sl a2 (sl (Nat.beq (len a1) 0) (some (.sl 0 0 1 0,[⟨73,4,[[i y.n.x,i y.n.y,i y.n.z,i y.b]],true,false,0⟩])) (sl a6 (some (.sl 0 0 (1+(len a1)) 0,[⟨73,4,app [[i y.n.x,i y.n.y,i y.n.z,i y.b]] a1,true,false,0⟩])) none)) none) (sl a7 (sl a3 (sl a2 (sl (Nat.beq (len a1) 0) (some (.sl 0 0 ((0+(len a0))+1) 0,[⟨73,4,app (app [] a0) [[i y.n.x,i y.n.y,i y.n.z,i y.b]],true,false,0⟩])) (sl (Nat.beq ((0+(len a0))+1) (len (app (app [] a0) [[i y.n.x,i y.n.y,i y.n.z,i y.b]]))&&Nat.ble (a4*32) room) (some (.sl 0 0 a4 0,[⟨73,4,app (app (app [] a0) [[i y.n.x,i y.n.y,i y.n.z,i y.b]]) a1,true,false,0⟩])) none)) none) none) none)) none);let w1:Option (b7×List b8):=(sl (decide (t1.2.is5<(↑(List.length (rt tP x)):Int))) (sl (inB t1.2.is5 (List.length (rt tP x))) (sl ((a5.n.x==y.n.x)&&((a5.n.y==y.n.y)&&((a5.n.z==y.n.z)&&((a5.b==y.b)&&true)))) (some (eL tP (rt tP x),[])) w0) none) w0);(sl ((cnE tP x)&&true) (sl (Nat.beq t1.1 1) w1 (sl (Nat.beq t1.1 2) w1 none)) none)
noncomputable def yb8(x:List Pln)(y:Pln):List Pln:=N6 (one (r1L tP)) (Rb3 x y)
noncomputable def yb9(x:List Pln)(y:Pln):Bool:=okO (one (r1L tP)) (Rb3 x y)
noncomputable def Gd8:Sum:=oa3 (P0 tP) (ia0 tP) (λx y=>.guard (yb9 x y) (.ret ((one (r1L tP)).enc (yb8 x y),[])))
theorem te0:g9 prog G 159 Gd8:=mb9 (bd gg7 he7) (one (r1L tP)) (o:=Rb3) λx y=>wa1 (.s .p (.s .p (.s (.b (.u kc6.ls)) .p))) [kc6.pr] (by kernel_rfl) (.cons Sd4 .nil) (by kernel_rfl)
end Go.Ev.Ce
namespace Go.Ev.L
open Go Go.Ev
noncomputable def Lf4:Cod Unit where
 enc _:=.v (.slice none 0 0)
 dec x:=match x with
  |.v (.slice none 0 0)=>some ()
  |_=>none
 grd _:=true
 ok x a hx _:=by
  split at hx
  ·exact .refl _
  ·cases hx
noncomputable def cE0:Cod (Addr×Nat) where
 enc z:=.v (.slice (some z.1) 0 z.2)
 dec x:=match x with
  |.v (.slice (some a) 0 c)=>some (a,c)
  |_=>none
 grd _:=true
 ok x a hx _:=by
  split at hx
  ·cases hx;exact .refl _
  ·cases hx
section
variable{α:Type}{t:Ty α}{P:Program}{G:Nat->List Value}{f:FuncId}
theorem Sd5{β:Type}{c:Cod β}{k k':β->DT (b7×List b8)}(h:g9 P G f (Y0 c k))(hk:∀a r,(k' a).run=some r->(k a).run=some r):g9 P G f (Y0 c k'):=h.le λargs blks r hr=>by
 unfold Y0 at hr ⊢
 split at hr
 ·obtain⟨a,h1,hr⟩:=G8 hr;obtain⟨g,hr⟩:=DT.run_guard_some hr;simp only[h1,onO,g];exact hk a r hr
 ·cases hr
theorem Lf5{k:List α->DT (b7×List b8)}(hA:g9 P G f (Y0 (Se2 t) λz=>k (z.1::z.2)))(hN:g9 P G f (Y0 Lf4 λ_=>k []))(hE:g9 P G f (Y0 cE0 λ_=>k [])):g9 P G f (Y0 (P0 t) k):=by
 intro args blks r out he W ρ F w args' hH hlen hargs hG;unfold Y0 at he
 split at he
 ·rename_i x;obtain⟨a,h1,he⟩:=G8 he;obtain⟨g1,hk⟩:=DT.run_guard_some he;have nilCase:∀v',args'[0]?=some v'->v'=.slice none 0 0->a=[]->zb6 P f/\Calls P f args'.toArray w λe w'=>∃r',e=.returned r'/\R2 W ρ [] F w r out r' w':=λv' hv e ha=>by
   subst ha;refine hN [.v (.slice none 0 0)] [] r out ?_ W ρ F w args' hH hlen (λi x' y' hx hy=>?_) hG
   ·exact hk
   ·match i with
    |0=>cases hx;rw[hv] at hy;cases hy;rw[e];exact .val (.cell (.v _))
    |i+1=>cases hx
  have emptyCase:∀v' ad c,args'[0]?=some v'->v'=.slice (some ad) 0 c->a=[]->zb6 P f/\Calls P f args'.toArray w λe w'=>∃r',e=.returned r'/\R2 W ρ [] F w r out r' w':=λv' ad c hv e ha=>by
   subst ha;refine hE [.v (.slice (some ad) 0 c)] [] r out ?_ W ρ F w args' hH hlen (λi x' y' hx hy=>?_) hG
   ·exact hk
   ·match i with
    |0=>cases hx;rw[hv] at hy;cases hy;rw[e];exact .val (.cell (.v _))
    |i+1=>cases hx
  obtain⟨v',hv⟩:∃v',args'[0]?=some v':=by
   cases args' with
   |nil=>simp at hlen
   |cons v' r'=>exact⟨v',rfl⟩
  cases x with
  |tree e n get =>
   have hb:Nat.beq e t.es=true/\a=lsL t n get:=by
    have h1:(Bool.rec none (some (lsL t n get)) (Nat.beq e t.es):Option (List α))=some a:=h1;cases hb:Nat.beq e t.es with
    |false=>rw[hb] at h1;cases h1
    |true =>
     rw[hb] at h1;have h1:some (lsL t n get)=some a:=h1;injection h1 with h1;exact⟨rfl,h1.symm⟩
   cases n with
   |zero =>
    have ha:a=[]:=hb.2;have hm:=Da3 (hargs 0 _ v' rfl hv);cases hm with
    |tree _ _ _ ad cap cs hs hcap hes hF hw hr=>exact emptyCase _ ad cap hv rfl ha
    |nil=>exact nilCase _ hv rfl ha
   |succ m =>
    have ha:a=hC t get::tC t m get:=hb.2.trans (Zd0 t m get);subst ha;refine hA [.tree e (m+1) get] [] r out ?_ W ρ F w args' hH hlen hargs hG;have hc:(Se2 t).dec (.tree e (m+1) get)=some (hC t get,tC t m get):=by
     show (Bool.rec none (some (hC t get,tC t m get)) (Nat.beq e t.es):Option (α×List α))=_;rw[hb.1]
    have hg:(Se2 t).grd (.tree e (m+1) get)=true:=g1;simp only[Y0,hc,onO,hg];exact hk
  |v q =>
   have hq:=ka1 (hargs 0 _ v' rfl hv);unfold P0 at h1
   simp only at h1
   split at h1
   ·rename_i heq;cases heq
   ·rename_i heq;injection heq with heq;injection h1 with h1;exact nilCase v' hv (hq.trans heq) h1.symm
   ·rename_i ad c heq;injection heq with heq;injection h1 with h1;exact emptyCase v' _ _ hv (hq.trans heq) h1.symm
   ·cases h1
  |_=>cases h1
 ·cases he
end
end Go.Ev.L
namespace Go.Ev.Ce
open Go Go.Ev Go.Ev.L Go.Proofs
set_option maxRecDepth 100000
noncomputable def Db6:List (Nat×Sum):=[]
theorem qc8:i7 prog G Db6:=trivial
@[reducible] noncomputable def Jb4:Sum:=Ob3 (En Db6) Df0
theorem yc7:g9 prog G 208 Jb4:=bd jg4 qc8
noncomputable def Db7:List (Nat×Sum):=[]
theorem qc9:i7 prog G Db7:=trivial
@[reducible] noncomputable def Jb5:Sum:=Ob3 (En Db7) Cf9
theorem yc8:g9 prog G 207 Jb5:=bd jg3 qc9
noncomputable def Rb4:List (Nat×Sum):=[(208,Jb4),(207,Jb5)]
theorem Ic3:i7 prog G Rb4:=⟨yc7,yc8,trivial⟩
@[reducible] noncomputable def ac6:Sum:=Ob3 (En Rb4) Cf3
theorem Pc7:g9 prog G 180 ac6:=bd ig2 Ic3
structure F6 where
noncomputable def ia2:List (Nat×Sum):=[]
theorem Ma2:i7 prog G ia2:=trivial
structure w8 where
structure o0 where
noncomputable def ea9(p:w8)(s:o0):St:=⟨.v (.slice none 0 0)::i 0::i 0::.fn 122 []::ra 4 (i 1::ra 44 []),[]⟩
noncomputable def M2{α:Type}(k:o0->α)(e:Nat->α)(z:α)(p:w8)(s:o0):α:=(e 1)
noncomputable def N7(p:w8)(s:o0):Stp o0:=M2 .next .exit .fail p s
noncomputable def O5:Lo w8 o0:=⟨En ia2,0,Cf8,[1,4,4],[0,1,2,3,8],.p,[⟨.s (.o .nil)::.s (.o (.lit .i64 0))::.s (.o (.lit .i64 0))::.s (.o (.fn 122))::ru2 4 (.s (.o (.lit .i64 1))::ru2 44 []),[],λa H=>(⟨⟩,⟨⟩)⟩],N7,[(some 0,λp s=>upq (ea9 p s) [(12,i 1),(13,i 0),(14,b false)])],ea9⟩
theorem Ia5:O5.Ok:=Lo.ok [] (by kernel_rfl) .nil rfl (.cons (λa H=>by kernel_rfl) .nil) λp s=>(.of @M2 (λF _ _ _ _ _=>by unfold M2;(repeat' apply l6 (f:=F))<;>rfl) (by kernel_rfl))
structure F7 where
 alt:Nat
noncomputable def r8{α:Type}(kk:F7->α)(x:F6):α:=let t1:=(lp (N7 (⟨⟩:w8)) (⟨⟩:o0));(sl (Nat.beq t1.1 1) (kk ⟨1⟩) (kk ⟨0⟩))
noncomputable def F8(x:F6):F7:=r8 (λr=>r) x
noncomputable def P7(x:F6)(r:F7):DT (b7×List b8):=(.ite (Nat.beq r.alt 1) (.ret (.tup [],[])) .fail)
theorem Ra3{α β:Type}(F:α->β)(kk:F7->α)(x:F6):F (r8 kk x)=r8 (λr=>F (kk r)) x:=by unfold r8;(repeat' apply l6 (f:=F))<;>rfl
noncomputable def ka5:Sum:=Ra9 ⟨[.s (.o .nil),.s (.o (.lit .i64 0)),.s (.o (.lit .i64 0)),.s (.o (.fn 122))],[],λa H=>(⟨⟩,())⟩ (λx=>P7 x (F8 x))
theorem Oa8:g9 prog G 199 ka5:=J4 (enc:=λx=>⟨[.v (.slice none 0 0),i 0,i 0,.fn 122 []],[]⟩) (λa H=>by kernel_rfl) (bd jg2 Ma2) λx=>wa1 (.s .p (.b (.u O5.ls))) [O5.pr] (by kernel_rfl) (.cons Ia5 .nil) (Qjh (b:=r8 (λr=>(P7 x r).run) x) (by kernel_rfl) (Ra3 (λr=>(P7 x r).run) (λr=>r) x).symm)
structure P8 where
noncomputable def xa8:List (Nat×Sum):=[(199,ka5)]
theorem db8:i7 prog G xa8:=⟨Oa8,trivial⟩
structure E3 where
structure r6 where
noncomputable def Za2(p:E3)(s:r6):St:=⟨.v (.slice none 0 0)::i 0::i 0::i 0::.fn 122 []::ra 5 (b true::b true::ra 136 []),[]⟩
noncomputable def J5{α:Type}(k:r6->α)(e:Nat->α)(z:α)(p:E3)(s:r6):α:=let t1:=(F8 ⟨⟩);(sl (Nat.beq t1.alt 1) (e 1) z)
noncomputable def L2(p:E3)(s:r6):Stp r6:=J5 .next .exit .fail p s
noncomputable def Z8:Lo E3 r6:=⟨En xa8,0,Cf2,[1,1,4,4],[0,1,2,3,4,10,11],.p,[⟨.s (.o .nil)::.s (.o (.lit .i64 0))::.s (.o (.lit .i64 0))::.s (.o (.lit .i64 0))::.s (.o (.fn 122))::ru2 5 (.s (.o (.blit true))::.s (.o (.blit true))::ru2 136 []),[],λa H=>(⟨⟩,⟨⟩)⟩],L2,[(none,λp s=>⟨[.tup []],[]⟩)],Za2⟩
theorem Za3:Z8.Ok:=Lo.ok [] (by kernel_rfl) .nil rfl (.cons (λa H=>by kernel_rfl) .nil) λp s=>(.of @J5 (λF _ _ _ _ _=>by unfold J5;(repeat' apply l6 (f:=F))<;>rfl) (by kernel_rfl))
structure P9 where
 alt:Nat
noncomputable def B0{α:Type}(kk:P9->α)(x:P8):α:=let t1:=(lp (L2 (⟨⟩:E3)) (⟨⟩:r6));(sl (Nat.beq t1.1 1) (kk ⟨1⟩) (kk ⟨0⟩))
noncomputable def Q0(x:P8):P9:=B0 (λr=>r) x
noncomputable def ba6(x:P8)(r:P9):DT (b7×List b8):=(.ite (Nat.beq r.alt 1) (.ret (.tup [],[])) .fail)
theorem jb8{α β:Type}(F:α->β)(kk:P9->α)(x:P8):F (B0 kk x)=B0 (λr=>F (kk r)) x:=by unfold B0;(repeat' apply l6 (f:=F))<;>rfl
noncomputable def Aa3:Sum:=Ra9 ⟨[.s (.o .nil),.s (.o (.lit .i64 0)),.s (.o (.lit .i64 0)),.s (.o (.lit .i64 0)),.s (.o (.fn 122))],[],λa H=>(⟨⟩,())⟩ (λx=>ba6 x (Q0 x))
theorem fb9:g9 prog G 179 Aa3:=J4 (enc:=λx=>⟨[.v (.slice none 0 0),i 0,i 0,i 0,.fn 122 []],[]⟩) (λa H=>by kernel_rfl) (bd ig1 db8) λx=>wa1 (.s .p (.s .p (.b (.u Z8.ls)))) [Z8.pr] (by kernel_rfl) (.cons Za3 .nil) (Qjh (b:=B0 (λr=>(ba6 x r).run) x) (by kernel_rfl) (jb8 (λr=>(ba6 x r).run) (λr=>r) x).symm)
structure fa9 where
noncomputable def Gb8:List (Nat×Sum):=[(179,Aa3),(180,ac6)]
theorem Db8:i7 prog G Gb8:=⟨fb9,Pc7,trivial⟩
structure ga0 where
 alt:Nat
noncomputable def L7{α:Type}(kk:ga0->α)(x:fa9):α:=let t1:=(Q0 ⟨⟩);(sl (Nat.beq t1.alt 1) (kk ⟨1⟩) (kk ⟨0⟩))
noncomputable def ga1(x:fa9):ga0:=L7 (λr=>r) x
noncomputable def sa5(x:fa9)(r:ga0):DT (b7×List b8):=(.ite (Nat.beq r.alt 1) (.ret (.tup [],[])) .fail)
theorem Nb8{α β:Type}(F:α->β)(kk:ga0->α)(x:fa9):F (L7 kk x)=L7 (λr=>F (kk r)) x:=by unfold L7;(repeat' apply l6 (f:=F))<;>rfl
noncomputable def Ua3:Sum:=Ra9 ⟨[.s (.o .nil),.s (.o (.fn 122))],[],λa H=>(⟨⟩,())⟩ (λx=>sa5 x (ga1 x))
theorem Gb9:g9 prog G 121 Ua3:=J4 (enc:=λx=>⟨[.v (.slice none 0 0),.fn 122 []],[]⟩) (λa H=>by kernel_rfl) (bd eg7 Db8) λx=>v8 (Qjh (b:=L7 (λr=>(sa5 x r).run) x) (by kernel_rfl) (Nb8 (λr=>(sa5 x r).run) (λr=>r) x).symm)
structure da3 where
 i6:List Pt
noncomputable def Ma3:List (Nat×Sum):=[]
theorem xb1:i7 prog G Ma3:=trivial
structure N2 where
 i6:List Pt
structure A4 where
noncomputable def Ga0(p:N2)(s:A4):St:=⟨.v (.slice none 0 0)::.fn 152 [.ptr 0 0 0 0]::ra 5 (i 0::i 0::ra 10 []),[⟨0,1,[[eL tX p.i6]],true,false,0⟩]⟩
noncomputable def ha7{α:Type}(k:A4->α)(e:Nat->α)(z:α)(p:N2)(s:A4):α:=(e 1)
noncomputable def ja8(p:N2)(s:A4):Stp A4:=ha7 .next .exit .fail p s
noncomputable def ma8:Lo N2 A4:=⟨En Ma3,1,be8,[1,0,1,4,4],[0,1,7,8],.p,[⟨.s (.o .nil)::.fn 152 [.o (.ptr 0 0 0 0)]::ru2 5 (.s (.o (.lit .i64 0))::.s (.o (.lit .i64 0))::ru2 10 []),[⟨0,1,true,some [[.c 4 (nL tX)]]⟩],λa H=>(⟨hLq tX H 0 0 0⟩,⟨⟩)⟩],ja8,[(some 0,λp s=>upq (Ga0 p s) [(9,b false)])],Ga0⟩
theorem tb9:ma8.Ok:=Lo.ok [] (by kernel_rfl) .nil rfl (.cons (λa H=>by kernel_rfl) .nil) λp s=>(.of @ha7 (λF _ _ _ _ _=>by unfold ha7;(repeat' apply l6 (f:=F))<;>rfl) (by kernel_rfl))
structure da4 where
 alt:Nat
 i6:List Pt
noncomputable def J3{α:Type}(kk:da4->α)(x:da3):α:=let t1:=(lp (ja8 (⟨rt tX x.i6⟩:N2)) (⟨⟩:A4));(sl ((cnE tX x.i6)&&true) (sl (Nat.beq t1.1 1) (kk ⟨1,rt tX x.i6⟩) (kk ⟨0,[]⟩)) (kk ⟨0,[]⟩))
noncomputable def sa6(x:da3):da4:=J3 (λr=>r) x
noncomputable def qa3(x:da3)(r:da4):DT (b7×List b8):=(.ite (Nat.beq r.alt 1) (.ret (i (-1),[⟨0,1,[[eL tX r.i6]],true,false,0⟩])) .fail)
theorem Hb0{α β:Type}(F:α->β)(kk:da4->α)(x:da3):F (J3 kk x)=J3 (λr=>F (kk r)) x:=by unfold J3;(repeat' apply l6 (f:=F))<;>rfl
noncomputable def Qa8:Sum:=Ra9 ⟨[.s (.o .nil),.fn 152 [.o (.ptr 0 0 0 0)]],[⟨0,1,true,some [[.c 4 (nL tX)]]⟩],λa H=>(⟨hLq tX H 0 0 0⟩,())⟩ (λx=>qa3 x (sa6 x))
theorem Db9:g9 prog G 139 Qa8:=J4 (enc:=λx=>⟨[.v (.slice none 0 0),.fn 152 [.ptr 0 0 0 0]],[⟨0,1,[[eL tX x.i6]],true,false,0⟩]⟩) (λa H=>by kernel_rfl) (bd rf7 xb1) λx=>wa1 (.s .p (.s (.s .p (.b (.u ma8.ls))) .p)) [ma8.pr] (by kernel_rfl) (.cons tb9 .nil) (Qjh (b:=J3 (λr=>(qa3 x r).run) x) (by kernel_rfl) (Hb0 (λr=>(qa3 x r).run) (λr=>r) x).symm)
structure Z9 where
 i6:List Pt
noncomputable def xb2:List (Nat×Sum):=[(139,Qa8)]
theorem ub0:i7 prog G xb2:=⟨Db9,trivial⟩
structure aa0 where
 alt:Nat
 i6:List Pt
noncomputable def G1{α:Type}(kk:aa0->α)(x:Z9):α:=let t1:=(sa6 ⟨rt tX x.i6⟩);(sl ((cnE tX x.i6)&&true) (sl (Nat.beq t1.alt 1) (kk ⟨1,t1.i6⟩) (kk ⟨0,[]⟩)) (kk ⟨0,[]⟩))
noncomputable def aa1(x:Z9):aa0:=G1 (λr=>r) x
noncomputable def ma9(x:Z9)(r:aa0):DT (b7×List b8):=(.ite (Nat.beq r.alt 1) (.ret (.v (.slice none 0 0),[⟨0,1,[[eL tX r.i6]],true,false,0⟩])) .fail)
theorem Eb0{α β:Type}(F:α->β)(kk:aa0->α)(x:Z9):F (G1 kk x)=G1 (λr=>F (kk r)) x:=by unfold G1;(repeat' apply l6 (f:=F))<;>rfl
noncomputable def Ma4:Sum:=Ra9 ⟨[.s (.o .nil),.fn 152 [.o (.ptr 0 0 0 0)]],[⟨0,1,true,some [[.c 4 (nL tX)]]⟩],λa H=>(⟨hLq tX H 0 0 0⟩,())⟩ (λx=>ma9 x (aa1 x))
theorem xb3:g9 prog G 150 Ma4:=J4 (enc:=λx=>⟨[.v (.slice none 0 0),.fn 152 [.ptr 0 0 0 0]],[⟨0,1,[[eL tX x.i6]],true,false,0⟩]⟩) (λa H=>by kernel_rfl) (bd Vf9 ub0) λx=>wa1 .p [] (by kernel_rfl) .nil (Qjh (b:=G1 (λr=>(ma9 x r).run) x) (by kernel_rfl) (Eb0 (λr=>(ma9 x r).run) (λr=>r) x).symm)
structure ia3 where
noncomputable def Nb9:List (Nat×Sum):=[]
theorem Hb1:i7 prog G Nb9:=trivial
structure ia4 where
noncomputable def V8{α:Type}(kk:ia4->α)(x:ia3):α:=(kk ⟨⟩)
noncomputable def Rb5(x:ia3):ia4:=V8 (λr=>r) x
noncomputable def xa4(x:ia3)(r:ia4):DT (b7×List b8):=.ret (.v (.slice none 0 0),[])
theorem Rb6{α β:Type}(F:α->β)(kk:ia4->α)(x:ia3):F (V8 kk x)=V8 (λr=>F (kk r)) x:=by unfold V8;(repeat' apply l6 (f:=F))<;>rfl
noncomputable def Za0:Sum:=Ra9 ⟨[.s (.o .nil)],[],λa H=>(⟨⟩,())⟩ (λx=>xa4 x (Rb5 x))
theorem Ob0:g9 prog G 154 Za0:=J4 (enc:=λx=>⟨[.v (.slice none 0 0)],[]⟩) (λa H=>by kernel_rfl) (bd Wf0 Hb1) λx=>wa1 .p [] (by kernel_rfl) .nil (Qjh (b:=V8 (λr=>(xa4 x r).run) x) (by kernel_rfl) (Rb6 (λr=>(xa4 x r).run) (λr=>r) x).symm)
noncomputable def Xb2:List (Nat×Sum):=[]
theorem Rb7:i7 prog G Xb2:=trivial
structure ra5 where
noncomputable def da9{α:Type}(kk:ra5->α)(x:Unit):α:=(kk ⟨⟩)
noncomputable def bc9(x:Unit):ra5:=da9 (λr=>r) x
noncomputable def Ca8(r:ra5):DT (b7×List b8):=.ret (.v (.slice none 0 0),[])
theorem cc2{α β:Type}(F:α->β)(kk:ra5->α)(x:Unit):F (da9 kk x)=da9 (λr=>F (kk r)) x:=by unfold da9;(repeat' apply l6 (f:=F))<;>rfl
noncomputable def gb3:Sum:=Y0 Lf4 (λx=>Ca8 (bc9 x))
theorem Xb3:g9 prog G 151 gb3:=Hb9 (bd Jf2 Rb7) λx=>v8 (Qjh (b:=da9 (λr=>(Ca8 r).run) x) (by kernel_rfl) (cc2 (λr=>(Ca8 r).run) (λr=>r) x).symm)
noncomputable def zd0:List (Nat×Sum):=[(55,Ba3),(113,Ta3),(151,gb3),(150,Ma4),(121,Ua3),(154,Za0)]
theorem pd0:i7 prog G zd0:=⟨Ca5,cb7,Xb3,xb3,Gb9,Ob0,trivial⟩
noncomputable def db9(x:Unit):Option (b7×List b8):=let t1:=(na7 []);let t2:=(wa3 []);let t4:=(aa1 ⟨rt tX t2⟩);let t5:=(ga1 ⟨⟩);(sl (na8 []) (sl (!t1) (some (.v (.slice none 0 0),[])) (sl (wa4 []) (sl ((cnE tX t2)&&true) (sl (Nat.beq t4.alt 1) (sl (Nat.beq t5.alt 1) (some (.v (.slice none 0 0),[])) none) none) none) none)) none)
noncomputable def Xb4(x:Unit):List Pln:=N6 (one (r1L tP)) (db9 x)
noncomputable def Xb5(x:Unit):Bool:=okO (one (r1L tP)) (db9 x)
noncomputable def Sd6:Sum:=Y0 Lf4 (λx=>.guard (Xb5 x) (.ret ((one (r1L tP)).enc (Xb4 x),[])))
theorem zd1:g9 prog G 98 Sd6:=Ja3 (bd b98 pd0) (one (r1L tP)) (o:=db9) λx=>v8 (by kernel_rfl)
noncomputable def Xb6:List (Nat×Sum):=[]
theorem Rb8:i7 prog G Xb6:=trivial
structure ra6 where
noncomputable def ea0{α:Type}(kk:ra6->α)(x:Addr×Nat):α:=(kk ⟨⟩)
noncomputable def cc3(x:Addr×Nat):ra6:=ea0 (λr=>r) x
noncomputable def Ca9(r:ra6):DT (b7×List b8):=.ret (.sl 0 0 0 0,[⟨73,4,[],true,false,0⟩])
theorem cc4{α β:Type}(F:α->β)(kk:ra6->α)(x:Addr×Nat):F (ea0 kk x)=ea0 (λr=>F (kk r)) x:=by unfold ea0;(repeat' apply l6 (f:=F))<;>rfl
noncomputable def gb4:Sum:=Y0 cE0 (λx=>Ca9 (cc3 x))
theorem Xb7:g9 prog G 151 gb4:=Hb9 (bd Jf2 Rb8) λx=>v8 (Qjh (b:=ea0 (λr=>(Ca9 r).run) x) (by kernel_rfl) (cc4 (λr=>(Ca9 r).run) (λr=>r) x).symm)
noncomputable def zd2:List (Nat×Sum):=[(55,Ba3),(113,Ta3),(151,gb4),(150,sa3),(121,Aa2),(154,Ca7)]
theorem pd1:i7 prog G zd2:=⟨Ca5,cb7,Xb7,Ma0,Ua1,Ya8,trivial⟩
noncomputable def eb0(x:Addr×Nat):Option (b7×List b8):=let t1:=(na7 []);let t2:=(wa3 []);let t4:=(J1 ⟨0,[],rt tX t2⟩);let t5:=(Z7 ⟨t4.ns0,app (bL tP (Ya9 (slR tP t4.eh0 0 t4.ns0))) (l0 t4.eh0 t4.ns0)⟩);(sl (na8 []) (sl (!t1) (some (.v (.slice none 0 0),[])) (sl (wa4 []) (sl ((cnE tX t2)&&true) (sl (Nat.beq t4.alt 1) (sl (Bool.and (Nat.ble t4.ns0 room) (Bool.and (Nat.ble t4.ns0 (len t4.eh0)) (okS tP t4.eh0 0 t4.ns0))) (sl (Nat.beq t5.alt 1) (some (.sl 0 0 t5.ns0 0,[⟨73,4,t5.eh0,true,false,0⟩])) none) none) none) none) none)) none)
noncomputable def Ic4(x:Addr×Nat):List Pln:=N6 (one (r1L tP)) (eb0 x)
noncomputable def Ic5(x:Addr×Nat):Bool:=okO (one (r1L tP)) (eb0 x)
noncomputable def Sd7:Sum:=Y0 cE0 (λx=>.guard (Ic5 x) (.ret ((one (r1L tP)).enc (Ic4 x),[])))
theorem zd3:g9 prog G 98 Sd7:=Ja3 (bd b98 pd1) (one (r1L tP)) (o:=eb0) λx=>v8 (by kernel_rfl)
structure bf1 where
 is1:Int
structure bf2 where
 ph:Nat
 is7:Int
 m0:List Int
 d8:Int
 ns6:Nat
 eh1:List (List b7)
noncomputable def kc7:List (Nat×Sum):=[(70,xc0),(157,Fc2),(158,Ub4),(159,Gd8)]
theorem Sd8:i7 prog G kc7:=⟨Tc6,wd1,gc7,te0,trivial⟩
structure na0 where
 b9:List Pln
 U8:List Pt
 is5:Int
 aa8:List Pln
structure Q1 where
 ph:Nat
 (is6 is7:Int)
noncomputable def kc8(p:na0)(s:Q1):St:=⟨eL tP p.b9::.unk::.unk::eL tX p.U8::.v (.slice none 0 0)::i p.is5::i s.is6::i s.is7::ra 38 [],[]⟩
noncomputable def kc9(p:na0)(s:Q1):St:=⟨eL tP p.b9::.unk::.unk::eL tX p.U8::eL tP p.aa8::i p.is5::i s.is6::i s.is7::ra 38 [],[]⟩
noncomputable def zd4(p:na0)(s:Q1):St:=(sel (Nat.beq s.ph 1) (kc9 p s) (kc8 p s))
noncomputable def qa4{α:Type}(k:Q1->α)(e:Nat->α)(z:α)(p:na0)(s:Q1):α:=let t1:=(Xa0 (gL tP p.b9 p.is5.toNat) (gL tX p.U8 s.is7.toNat));(sl (decide (s.is7<(↑(List.length p.U8):Int))) (sl (inB p.is5 (List.length p.b9)) (sl (inB s.is7 (List.length p.U8)) (sl (t1==0) (k ⟨0,W (s.is6+1),W (s.is7+1)⟩) (k ⟨0,s.is6,W (s.is7+1)⟩)) z) z) (e 1))
noncomputable def qa5{α:Type}(k:Q1->α)(e:Nat->α)(z:α)(p:na0)(s:Q1):α:=let t1:=(Xa0 (gL tP p.b9 p.is5.toNat) (gL tX p.U8 s.is7.toNat));(sl (decide (s.is7<(↑(List.length p.U8):Int))) (sl (inB p.is5 (List.length p.b9)) (sl (inB s.is7 (List.length p.U8)) (sl (t1==0) (k ⟨1,W (s.is6+1),W (s.is7+1)⟩) (k ⟨1,s.is6,W (s.is7+1)⟩)) z) z) (e 2))
noncomputable def Ua4(p:na0)(s:Q1):Stp Q1:=(sel (Nat.beq s.ph 1) (qa5 .next .exit .fail p s) (qa4 .next .exit .fail p s))
noncomputable def Xb8:Lo na0 Q1:=⟨En kc7,0,We4,[1,1,1,1,0,1,4,4,1,0,4,1,0,1,4,4],[0,3,4,5,6,7],.p,[⟨sLq tP::sUq::sUq::sLq tX::.s (.o .nil)::sIq::sIq::sIq::ru2 38 [],[],λa H=>(⟨aLq tP a 0,aLq tX a 3,aIq a 5,[]⟩,⟨0,aIq a 6,aIq a 7⟩)⟩,⟨sLq tP::sUq::sUq::sLq tX::sLq tP::sIq::sIq::sIq::ru2 38 [],[],λa H=>(⟨aLq tP a 0,aLq tX a 3,aIq a 5,aLq tP a 4⟩,⟨1,aIq a 6,aIq a 7⟩)⟩],Ua4,[(some 2,λp s=>upq (kc8 p s) [(19,i s.is7),(20,eL tX p.U8),(21,i (↑(List.length p.U8):Int)),(22,b (decide (s.is7<(↑(List.length p.U8):Int))))]),(some 2,λp s=>upq (kc9 p s) [(19,i s.is7),(20,eL tX p.U8),(21,i (↑(List.length p.U8):Int)),(22,b (decide (s.is7<(↑(List.length p.U8):Int))))])],zd4⟩
theorem zd5:Xb8.Ok:=Lo.ok [] (by kernel_rfl) .nil rfl (.cons (λa H=>by kernel_rfl) (.cons (λa H=>by kernel_rfl) .nil)) λp s=>(.sel (Nat.beq s.ph 1) (.of @qa5 (λF _ _ _ _ _=>by unfold qa5;(repeat' apply l6 (f:=F))<;>rfl) (by kernel_rfl)) (.of @qa4 (λF _ _ _ _ _=>by unfold qa4;(repeat' apply l6 (f:=F))<;>rfl) (by kernel_rfl)))
structure va2 where
structure J6 where
 ph:Nat
 b9:List Pln
 U8:List Pt
 is5:Int
 aa8:List Pln
noncomputable def lc0(p:va2)(s:J6):St:=⟨eL tP s.b9::.unk::.unk::eL tX s.U8::.v (.slice none 0 0)::i s.is5::ra 40 [],[]⟩
noncomputable def lc1(p:va2)(s:J6):St:=⟨eL tP s.b9::.unk::.unk::eL tX s.U8::eL tP s.aa8::i s.is5::ra 40 [],[]⟩
noncomputable def zd6(p:va2)(s:J6):St:=(sel (Nat.beq s.ph 1) (lc1 p s) (lc0 p s))
noncomputable def qa6{α:Type}(k:J6->α)(e:Nat->α)(z:α)(p:va2)(s:J6):α:=let t1:=(lp (Ua4 (⟨rt tP s.b9,rt tX s.U8,s.is5,[]⟩:na0)) (⟨0,0,0⟩:Q1));let t2:=(yb8 [] (gL tP (rt tP s.b9) s.is5.toNat));let t3:=(yb8 (rt tP []) (gL tP (rt tP s.b9) s.is5.toNat));(sl (decide (s.is5<(↑(List.length s.b9):Int))) (sl ((cnE tP s.b9)&&((cnE tX s.U8)&&true)) (sl (Nat.beq t1.1 1) (sl (decide (t1.2.is6>=3)) (sl (inB s.is5 (List.length (rt tP s.b9))) (sl (yb9 [] (gL tP (rt tP s.b9) s.is5.toNat)) (k ⟨1,rt tP s.b9,rt tX s.U8,W (s.is5+1),t2⟩) z) z) (k ⟨0,rt tP s.b9,rt tX s.U8,W (s.is5+1),[]⟩)) (sl (Nat.beq t1.1 2) (sl (decide (t1.2.is6>=3)) (sl (inB s.is5 (List.length (rt tP s.b9))) (sl (okE tP []) (sl (yb9 (rt tP []) (gL tP (rt tP s.b9) s.is5.toNat)) (k ⟨1,rt tP s.b9,rt tX s.U8,W (s.is5+1),t3⟩) z) z) z) (k ⟨1,rt tP s.b9,rt tX s.U8,W (s.is5+1),[]⟩)) z)) z) (e 1))
noncomputable def qa7{α:Type}(k:J6->α)(e:Nat->α)(z:α)(p:va2)(s:J6):α:=let t1:=(lp (Ua4 (⟨rt tP s.b9,rt tX s.U8,s.is5,rt tP s.aa8⟩:na0)) (⟨1,0,0⟩:Q1));let t2:=(yb8 [] (gL tP (rt tP s.b9) s.is5.toNat));let t3:=(yb8 (rt tP (rt tP s.aa8)) (gL tP (rt tP s.b9) s.is5.toNat));(sl (decide (s.is5<(↑(List.length s.b9):Int))) (sl ((cnE tP s.b9)&&((cnE tX s.U8)&&((cnE tP s.aa8)&&true))) (sl (Nat.beq t1.1 1) (sl (decide (t1.2.is6>=3)) (sl (inB s.is5 (List.length (rt tP s.b9))) (sl (yb9 [] (gL tP (rt tP s.b9) s.is5.toNat)) (k ⟨1,rt tP s.b9,rt tX s.U8,W (s.is5+1),t2⟩) z) z) (k ⟨0,rt tP s.b9,rt tX s.U8,W (s.is5+1),[]⟩)) (sl (Nat.beq t1.1 2) (sl (decide (t1.2.is6>=3)) (sl (inB s.is5 (List.length (rt tP s.b9))) (sl (okE tP (rt tP s.aa8)) (sl (yb9 (rt tP (rt tP s.aa8)) (gL tP (rt tP s.b9) s.is5.toNat)) (k ⟨1,rt tP s.b9,rt tX s.U8,W (s.is5+1),t3⟩) z) z) z) (k ⟨1,rt tP s.b9,rt tX s.U8,W (s.is5+1),rt tP s.aa8⟩)) z)) z) (e 2))
noncomputable def mb0(p:va2)(s:J6):Stp J6:=(sel (Nat.beq s.ph 1) (qa7 .next .exit .fail p s) (qa6 .next .exit .fail p s))
noncomputable def Xb9:Lo va2 J6:=⟨En kc7,0,We4,[1,1,1,1,0,1,4,4],[0,3,4,5],.s .p (.s (.b (.s .p (.s (.s .p (.b (.u Xb8.ls))) .p))) .p),[⟨sLq tP::sUq::sUq::sLq tX::.s (.o .nil)::sIq::ru2 40 [],[],λa H=>(⟨⟩,⟨0,aLq tP a 0,aLq tX a 3,aIq a 5,[]⟩)⟩,⟨sLq tP::sUq::sUq::sLq tX::sLq tP::sIq::ru2 40 [],[],λa H=>(⟨⟩,⟨1,aLq tP a 0,aLq tX a 3,aIq a 5,aLq tP a 4⟩)⟩],mb0,[(some 0,λp s=>upq (lc0 p s) [(13,i s.is5),(14,eL tP s.b9),(15,i (↑(List.length s.b9):Int)),(16,b (decide (s.is5<(↑(List.length s.b9):Int))))]),(some 0,λp s=>upq (lc1 p s) [(13,i s.is5),(14,eL tP s.b9),(15,i (↑(List.length s.b9):Int)),(16,b (decide (s.is5<(↑(List.length s.b9):Int))))])],zd6⟩
theorem zd7:Xb9.Ok:=Lo.ok [Xb8.pr] (by kernel_rfl) (.cons zd5 .nil) rfl (.cons (λa H=>by kernel_rfl) (.cons (λa H=>by kernel_rfl) .nil)) λp s=>(.sel (Nat.beq s.ph 1) (.of @qa7 (λF _ _ _ _ _=>by unfold qa7;(repeat' apply l6 (f:=F))<;>rfl) (by kernel_rfl)) (.of @qa6 (λF _ _ _ _ _=>by unfold qa6;(repeat' apply l6 (f:=F))<;>rfl) (by kernel_rfl)))
noncomputable def Eb1(x:List Pln):Option (b7×List b8):=let t1:=(Xa2 (rt tP x));let t2:=(vb7 (rt tP x));let t3:=(lp (mb0 (⟨⟩:va2)) (⟨0,rt tP x,rt tX t2,0,[]⟩:J6));(sl (okE tP x) (sl (Xa3 (rt tP x)) (sl (!t1) (some (.v (.slice none 0 0),[])) (sl (okE tP x) (sl (vb8 (rt tP x)) (sl ((cnE tP x)&&((cnE tX t2)&&true)) (sl (Nat.beq t3.1 1) (some (.v (.slice none 0 0),[])) (sl (Nat.beq t3.1 2) (some (eL tP t3.2.aa8,[])) none)) none) none) none)) none) none)
noncomputable def yc9(x:List Pln):List Pln:=N6 (one (r1L tP)) (Eb1 x)
noncomputable def zc0(x:List Pln):Bool:=okO (one (r1L tP)) (Eb1 x)
noncomputable def pd2:Sum:=Y0 (P0 tP) (λx=>.guard (zc0 x) (.ret ((one (r1L tP)).enc (yc9 x),[])))
theorem he8:g9 prog G 101 pd2:=Ja3 (bd dg6 Sd8) (one (r1L tP)) (o:=Eb1) λx=>wa1 (.s .p (.s .p (.s .p (.s .p (.s (.s .p (.b (.u Xb9.ls))) .p))))) [Xb9.pr] (by kernel_rfl) (.cons zd7 .nil) (by kernel_rfl)
theorem vf2(p q:Pln):wa7 p q=some (i (ma7 p q),[]):=by
 have key:∃t s,lp (L6 ⟨p.n.x,p.n.y,p.n.z,p.b,q.n.x,q.n.y,q.n.z,q.b⟩) ⟨0⟩=(t,s)/\((t=1/\ma7 p q=-1)\/(t=2/\ma7 p q=1)\/(t=3/\ma7 p q=0)):=by
  refine Z6 (step:=L6 ⟨p.n.x,p.n.y,p.n.z,p.b,q.n.x,q.n.y,q.n.z,q.b⟩) (mk:=λj (_:Unit)=>(⟨(j:Int)⟩:U2)) 4
   (λj _=>(1<=j->p.n.x=q.n.x)/\(2<=j->p.n.y=q.n.y)/\(3<=j->p.n.z=q.n.z)/\(4<=j->p.b=q.b))
   (λt s=>(t=1/\ma7 p q=-1)\/(t=2/\ma7 p q=1)\/(t=3/\ma7 p q=0)) (by omega) (λj x hj hI=>?_) (λj x hj hI=>?_) 0 () ⟨by omega,by omega,by omega,by omega⟩
  ·have hn:=n8 hj (show 4<=4611686018427387904 by omega)
   simp only[L6,Z3,Int.toNat_natCast,hn];have hlt:(j:Int)<4:=by omega
   have hin:=f0 hj;have g:∀x1 x2 x3 x4:Int,((Nat.ble ((0+(j*1))+1) 4)&&(ra7 [CK.int .i64] (l0 [i x1,i x2,i x3,i x4] (0+(j*1)))))=true:=by
    intro x1 x2 x3 x4
    match j,hj with
    |0,_=>rfl
    |1,_=>rfl
    |2,_=>rfl
    |3,_=>rfl
   rw[btD hlt];simp only[hin,g,f9];obtain⟨i1,i2,i3,i4⟩:=hI
   match j,hj with
   |0,_ =>
    show Nx (sl (decide (p.n.x<q.n.x)) _ (sl (decide (p.n.x>q.n.x)) _ _)) _ _;refine Nx.sl (λh=>.ex ?_) λh=>Nx.sl (λh'=>.ex ?_) λh'=>.nx ⟨(),rfl,?_⟩<;>simp only[decide_eq_true_eq,decide_eq_false_iff_not] at h
    ·left;exact⟨rfl,by simp[ma7,qb1,h]⟩
    ·right;left;simp only[decide_eq_true_eq] at h';exact⟨rfl,by simp[ma7,qb1,h,h']⟩
    ·simp only[decide_eq_false_iff_not] at h';exact⟨by omega,by omega,by omega,by omega⟩
   |1,_ =>
    have j1:=i1 (by omega)
    show Nx (sl (decide (p.n.y<q.n.y)) _ (sl (decide (p.n.y>q.n.y)) _ _)) _ _;refine Nx.sl (λh=>.ex ?_) λh=>Nx.sl (λh'=>.ex ?_) λh'=>.nx ⟨(),rfl,?_⟩<;>simp only[decide_eq_true_eq,decide_eq_false_iff_not] at h
    ·left;exact⟨rfl,by simp[ma7,qb1,h,j1]⟩
    ·right;left;simp only[decide_eq_true_eq] at h';exact⟨rfl,by simp[ma7,qb1,h,h',j1]⟩
    ·simp only[decide_eq_false_iff_not] at h';exact⟨λ_=>j1,by omega,by omega,by omega⟩
   |2,_ =>
    have j1:=i1 (by omega);have j2:=i2 (by omega)
    show Nx (sl (decide (p.n.z<q.n.z)) _ (sl (decide (p.n.z>q.n.z)) _ _)) _ _;refine Nx.sl (λh=>.ex ?_) λh=>Nx.sl (λh'=>.ex ?_) λh'=>.nx ⟨(),rfl,?_⟩<;>simp only[decide_eq_true_eq,decide_eq_false_iff_not] at h
    ·left;exact⟨rfl,by simp[ma7,qb1,h,j1,j2]⟩
    ·right;left;simp only[decide_eq_true_eq] at h';exact⟨rfl,by simp[ma7,qb1,h,h',j1,j2]⟩
    ·simp only[decide_eq_false_iff_not] at h';exact⟨λ_=>j1,λ_=>j2,by omega,by omega⟩
   |3,_ =>
    have j1:=i1 (by omega);have j2:=i2 (by omega);have j3:=i3 (by omega)
    show Nx (sl (decide (p.b<q.b)) _ (sl (decide (p.b>q.b)) _ _)) _ _;refine Nx.sl (λh=>.ex ?_) λh=>Nx.sl (λh'=>.ex ?_) λh'=>.nx ⟨(),rfl,?_⟩<;>simp only[decide_eq_true_eq,decide_eq_false_iff_not] at h
    ·left;exact⟨rfl,by simp[ma7,qb1,h,j1,j2,j3]⟩
    ·right;left;simp only[decide_eq_true_eq] at h';exact⟨rfl,by simp[ma7,qb1,h,h',j1,j2,j3]⟩
    ·simp only[decide_eq_false_iff_not] at h';exact⟨λ_=>j1,λ_=>j2,λ_=>j3,by omega⟩
  ·simp only[L6,Z3];rw[bfD (by omega)]
   obtain⟨i1,i2,i3,i4⟩:=hI;have j1:=i1 (by omega);have j2:=i2 (by omega);have j3:=i3 (by omega);have j4:=i4 (by omega)
   exact⟨_,rfl,.inr (.inr ⟨rfl,by simp[ma7,qb1,j1,j2,j3,j4]⟩)⟩
 obtain⟨t,s,h1,h2⟩:=key;unfold wa7
 simp only
 rw[h1]
 rcases h2 with⟨rfl,e⟩|⟨rfl,e⟩|⟨rfl,e⟩<;>rw[e]<;>rfl
theorem bf3(p q:Pln):fa5 p q=ma7 p q:=by unfold fa5;rw[vf2];rfl
def atP(x:List Pln)(y:Pln):Nat:=x.findIdx λp=>!decide (ma7 p y<0)
noncomputable def ins(x:List Pln)(y:Pln):List Pln:=if (atP x y<x.length/\eqP (gL tP x (atP x y)) y=true) then x else pb8 x y (atP x y)
theorem pd3(x:List Pln)(y:Pln)(hx:x.length<=1000000):Rd (one (r1L tP)) (Rb3 x y) (λr=>r=ins x y):=by
 have h:=Na8 (step:=Oa7 ⟨x,y.n.x,y.n.y,y.n.z,y.b⟩) (mk:=λj=>(⟨(j:Int)⟩:va1)) (c:=λp=>!decide (ma7 p y<0)) (u:=1) (fin:=2) tP x (by omega)
  (λj hj=>by
   simp only[Oa7,Ua2,Int.toNat_natCast,se5,bf3,n8 hj (show x.length<=4611686018427387904 by omega)]
   rw[btD (g7 hj),bt (f0 hj),f9];show sl (decide (ma7 (gL tP x j) y<0)) _ _=_;cases decide (ma7 (gL tP x j) y<0)<;>rfl)
  (by simp only[Oa7,Ua2];rw[bfD (l9 (Qjai _))]) 0 (Qjy _)
 rw[Qjaf] at h;have key:∃t,lp (Oa7 ⟨x,y.n.x,y.n.y,y.n.z,y.b⟩) ⟨0⟩=(t,⟨((atP x y:Nat):Int)⟩)/\(t=1\/t=2):=by
  rw[show (⟨0⟩:va1)=⟨((0:Nat):Int)⟩ from rfl,h]
  split
  ·exact⟨1,by rw[Qja];rfl,.inl rfl⟩
  ·rename_i hn;refine⟨2,?_,.inr rfl⟩
   have:atP x y=x.length:=by
    unfold atP;rw[List.findIdx_eq_length];intro p hp;cases hb:(!decide (ma7 p y<0)) with
    |false=>rfl
    |true=>exact absurd (Qjan.2 ⟨p,hp,hb⟩) hn
   rw[this]
 obtain⟨t,h1,h2⟩:=key;have h3:atP x y<=x.length:=List.findIdx_le_length;have hdef:ins x y=if (atP x y<x.length/\eqP (gL tP x (atP x y)) y=true) then x else pb8 x y (atP x y):=rfl
 generalize atP x y=n at *
 have hlo:inB (n:Int) (x.length+1)=true:=f0 (by omega)
 have hd:(bL tP (x.take n)).length=n:=by rw[<- n7,S6,Qjb];omega
 have hlen:(pb8 x y n).length=x.length+1:=by unfold pb8;simp only[Qjc,List.length_cons,Qjb,Qjv];omega
 have lt:len (bL tP (x.take n))=n:=by rw[n7];exact hd
 have ld:len (bL tP (x.drop n))=x.length-n:=by rw[S6,Qjv]
 have b1:(Nat.beq 1 1&&Nat.ble ((1+(x.length-n))*32) room)=true:=by rw[fa0 (by omega)];rfl
 have b2:(Nat.beq 0 0&&Nat.ble ((0+n)*32) room)=true:=by rw[fa0 (by omega)];rfl
 have e0:app [] (bL tP (x.take n))=bL tP (x.take n):=rfl;have b3:(Nat.beq (0+n) n&&Nat.ble (((0+n)+1)*32) room)=true:=by rw[fa0 (by omega),Qja,Qjl];rfl
 have l3:len (bL tP (x.take n++[y]))=n+1:=by rw[S6,Qjc,Qjb];simp only[List.length_singleton];omega
 have b4:(Nat.beq ((0+n)+1) (n+1)&&Nat.ble ((((0+n)+1)+(x.length-n))*32) room)=true:=by rw[fa0 (by omega),Qja,Qjl];rfl
 have z0:∀{k:Nat},Nat.beq k 0=true->k=0:=λ{k} h=>Qjt h
 have fin:ins x y=pb8 x y n->∀m r,m=x.length+1->r=bL tP (pb8 x y n)->Rd (one (r1L tP)) (some (.sl 0 0 m 0,[⟨73,4,r,true,false,0⟩])) (λr=>r=ins x y) :=
  λhq m r hm hr=>Rd5 (by rw[hlen];exact hm) hr hq.symm
 have tail : ins x y = pb8 x y n → Rd (one (r1L tP)) (sl (Nat.beq n 0) (sl (Nat.beq (x.length - n) 0) (some ((.sl 0 0 1 0), [⟨73, 4, [[(i y.n.x), (i y.n.y), (i y.n.z), (i y.b)]], true, false, 0⟩]))
   (some ((.sl 0 0 (1+(x.length-n)) 0),[⟨73,4,(app [[(i y.n.x),(i y.n.y),(i y.n.z),(i y.b)]] (bL tP (x.drop n))),true,false,0⟩])))
   (sl (Nat.beq (x.length-n) 0) (some (.sl 0 0 ((0+n)+1) 0,[⟨73,4,bL tP (x.take n++[y]),true,false,0⟩]))
    (some ((.sl 0 0 (((0+n)+1)+(x.length-n)) 0),[⟨73,4,(app (bL tP (x.take n++[y])) (bL tP (x.drop n))),true,false,0⟩])))) (λr=>r=ins x y):=λhq=>by
  refine Rd.sl (λq1=>Rd.sl (λq2=>?_) (λq2=>?_)) (λq1=>Rd.sl (λq2=>?_) (λq2=>?_))
  ·have:=z0 q1;have:=z0 q2
   refine fin hq _ _ (by omega) ?_
   have:x=[]:=Qjs (by omega)
   subst this;rw[show n=0 by omega];rfl
  ·have:=z0 q1;subst this
   exact fin hq _ _ (by omega) rfl
  ·have:=z0 q2
   refine fin hq _ _ (by omega) ?_
   unfold pb8;rw[show x.drop n=[] from Qjaa (by omega)]
  ·refine fin hq _ _ (by omega) ?_
   rw[Ra1];unfold pb8;rw[Qjak];rfl
 unfold Rb3;simp only[i5,i8];rw[h1];simp only[Int.toNat_natCast,yc5 x n h3,yc6,lt,ld,b1,b2,e0,b3,Hc5,l3,b4,hlo,f9]
 have main : Rd (one (r1L tP)) (sl (decide ((n : Int) < (x.length : Int))) (sl (inB (n : Int) x.length) (sl (((gL tP x n).n.x == y.n.x) && (((gL tP x n).n.y == y.n.y) && (((gL tP x n).n.z == y.n.z) && (((gL tP x n).b == y.b) && true)))) (some (eL tP x, []))
   (sl (Nat.beq n 0) (sl (Nat.beq (x.length-n) 0) (some (.sl 0 0 1 0,[⟨73,4,[[i y.n.x,i y.n.y,i y.n.z,i y.b]],true,false,0⟩]))
   (some ((.sl 0 0 (1+(x.length-n)) 0),[⟨73,4,(app [[(i y.n.x),(i y.n.y),(i y.n.z),(i y.b)]] (bL tP (x.drop n))),true,false,0⟩])))
   (sl (Nat.beq (x.length-n) 0) (some (.sl 0 0 ((0+n)+1) 0,[⟨73,4,bL tP (x.take n++[y]),true,false,0⟩]))
    (some ((.sl 0 0 (((0+n)+1)+(x.length-n)) 0),[⟨73,4,(app (bL tP (x.take n++[y])) (bL tP (x.drop n))),true,false,0⟩]))))) none)
   (sl (Nat.beq n 0) (sl (Nat.beq (x.length-n) 0) (some (.sl 0 0 1 0,[⟨73,4,[[i y.n.x,i y.n.y,i y.n.z,i y.b]],true,false,0⟩]))
   (some ((.sl 0 0 (1+(x.length-n)) 0),[⟨73,4,(app [[(i y.n.x),(i y.n.y),(i y.n.z),(i y.b)]] (bL tP (x.drop n))),true,false,0⟩])))
   (sl (Nat.beq (x.length-n) 0) (some (.sl 0 0 ((0+n)+1) 0,[⟨73,4,bL tP (x.take n++[y]),true,false,0⟩]))
    (some ((.sl 0 0 (((0+n)+1)+(x.length-n)) 0),[⟨73,4,(app (bL tP (x.take n++[y])) (bL tP (x.drop n))),true,false,0⟩]))))) (λr=>r=ins x y):=by
  by_cases hn:n<x.length
  ·rw[btD (g7 hn),bt (f0 hn)];exact Rd.sl (λq=>⟨_,x,rfl,sc8 tP x,by rw[hdef,if_pos ⟨hn,q⟩]⟩) λq=>tail (by
    rw[hdef,if_neg λh=>?_]
    have h:=h.2;rw[show eqP (gL tP x n) y=false from q] at h
    cases h)
  ·rw[bfD (l9 hn)];exact tail (by rw[hdef,if_neg λh=>hn h.1])
 rcases h2 with rfl|rfl
 ·exact main
 ·exact main
def Za1(l:List Pln):Prop:=l.Pairwise LtP
theorem Pc8{x y z:Pln}(h1:LtP x y)(h2:LtP y z):LtP x z:=by unfold LtP at *;omega
theorem cd7(x:Pln):¬ LtP x x:=by unfold LtP;omega
theorem Ae7(x y:Pln):LtP x y\/x=y\/LtP y x:=by
 by_cases h1:LtP x y
 ·exact .inl h1
 ·by_cases h2:LtP y x
  ·exact .inr (.inr h2)
  ·refine .inr (.inl ?_);unfold LtP at h1 h2;have e1:x.n.x=y.n.x:=by omega
   have e2:x.n.y=y.n.y:=by omega
   have e3:x.n.z=y.n.z:=by omega
   have e4:x.b=y.b:=by omega
   cases x with | mk n b=>cases y with | mk m c=>cases n;cases m;simp_all
theorem Gd9:∀{l r:List Pln},Za1 l->Za1 r->(∀p,p∈l↔p∈r)->l=r
 |[],[],_,_,_=>rfl
 |[],b::r,_,_,h=>by have:=(h b).2 Qjf;cases this
 |a::l,[],_,_,h=>by have:=(h a).1 Qjf;cases this
 |a::l,b::r,hl,hr,h=>by
  obtain⟨hl1,hl2⟩:=Qjp.1 hl;obtain⟨hr1,hr2⟩:=Qjp.1 hr;have hab:a=b:=by
   rcases Qjd.1 ((h a).1 Qjf) with e|h1
   ·exact e
   ·rcases Qjd.1 ((h b).2 Qjf) with e|h2
    ·exact e.symm
    ·exact absurd (Pc8 (hr1 a h1) (hl1 b h2)) (cd7 b)
  subst hab;rw[Gd9 hl2 hr2 λp=>?_]
  constructor
  ·intro hp
   rcases Qjd.1 ((h p).1 (Qje _ hp)) with e|h1
   ·subst e;exact absurd (hl1 p hp) (cd7 p)
   ·exact h1
  ·intro hp
   rcases Qjd.1 ((h p).2 (Qje _ hp)) with e|h1
   ·subst e;exact absurd (hr1 p hp) (cd7 p)
   ·exact h1
def qb5:List Pln->Pln->List Pln
 |[],y=>[y]
 |a::l,y=>if ma7 a y<0 then a::qb5 l y else if eqP a y then a::l else y::a::l
theorem te1(y:Pln):∀x,ins x y=qb5 x y
 |[]=>rfl
 |a::l=>by
  have ih:=te1 y l;unfold qb5;by_cases h:ma7 a y<0
  ·rw[if_pos h,<- ih];have e:atP (a::l) y=atP l y+1:=by unfold atP;rw[Qjaj];simp[h]
   unfold ins;rw[e];have e2:gL tP (a::l) (atP l y+1)=gL tP l (atP l y):=rfl;rw[e2];simp only[List.length_cons,Nat.add_lt_add_iff_right];split
   ·rfl
   ·rfl
  ·rw[if_neg h];have e:atP (a::l) y=0:=by unfold atP;rw[Qjaj];simp[h]
   unfold ins;rw[e];have e2:gL tP (a::l) 0=a:=rfl;rw[e2];simp only[List.length_cons,Nat.zero_lt_succ,true_and];split
   ·rfl
   ·rfl
theorem Eb2(y p:Pln):∀x,p∈qb5 x y↔p=y\/p∈x
 |[]=>by simp[qb5]
 |a::l=>by
  unfold qb5;have ih:=Eb2 y p l;split
  ·simp only[Qjd,ih];constructor
   ·rintro (h|h|h)
    ·exact .inr (.inl h)
    ·exact .inl h
    ·exact .inr (.inr h)
   ·rintro (h|h|h)
    ·exact .inr (.inl h)
    ·exact .inl h
    ·exact .inr (.inr h)
  ·split
   ·rename_i h;rw[Jb3] at h;subst h;simp only[Qjd];constructor
    ·exact λh=>.inr h
    ·rintro (h|h)
     ·exact .inl h
     ·exact h
   ·simp only[Qjd]
theorem lc2(y:Pln):∀{x},Za1 x->Za1 (qb5 x y)
 |[],_=>List.pairwise_singleton _ _
 |a::l,h=>by
  obtain⟨h1,h2⟩:=Qjp.1 h;unfold qb5;split
  ·rename_i hc;rw[Rd8] at hc;refine Qjp.2 ⟨λp hp=>?_,lc2 y h2⟩
   rcases (Eb2 y p l).1 hp with e|hp
   ·subst e;exact hc
   ·exact h1 p hp
  ·rename_i hc;rw[Rd8] at hc;split
   ·exact h
   ·rename_i hne;have hlt:LtP y a:=by
     rcases Ae7 y a with h|h|h
     ·exact h
     ·exact absurd ((Jb3 _ _).2 h.symm) hne
     ·exact absurd h hc
    refine Qjp.2 ⟨λp hp=>?_,h⟩
    rcases Qjd.1 hp with e|hp
    ·subst e;exact hlt
    ·exact Pc8 hlt (h1 p hp)
theorem Ic6{σ:Type}{step:σ->Stp σ}{s:σ}{t:Nat}(h:step s=.exit t):lp step s=(t,s):=by rw[Re8];exact gd5 h
theorem Hd0:Ya9 []=[]:=Qjs (pc3 [])
theorem he9:lean []=[]:=by
 unfold lean;rw[se9,if_pos rfl,List.filter_nil,Hd0];rfl
theorem kg6(X:List Pt):aa1 ⟨X⟩=⟨1,X⟩:=by
 unfold aa1 G1 sa6 J3;simp only[i5,i8];rw[Ic6 (step:=ja8 ⟨X⟩) (s:=⟨⟩) (t:=1) rfl];rfl
theorem Xf8:ga1 ⟨⟩=⟨1⟩:=by
 have h1:F8 ⟨⟩=⟨1⟩:=by
  unfold F8 r8
  simp only
  rw[Ic6 (step:=N7 ⟨⟩) (s:=⟨⟩) (t:=1) rfl];rfl
 have h2:Q0 ⟨⟩=⟨1⟩:=by
  unfold Q0 B0
  simp only
  rw[Ic6 (step:=L2 ⟨⟩) (s:=⟨⟩) (t:=1) (by
   unfold L2 J5;simp only[h1]
   rfl)]
  rfl
 unfold ga1 L7;simp only[h2];rfl
theorem ie0(x:Unit):db9 x=some (.v (.slice none 0 0),[]):=by
 have hn:([]:List Pln).length<=1000000000:=by simp
 unfold db9;simp only[i5,i8,xc8 hn,xc9 hn,Gc7 hn,Gc8 hn,se9,kg6,Xf8];rfl
theorem ie1(x:Addr×Nat):Rd (one (r1L tP)) (eb0 x) (λr=>r=[]):=by
 have hn:([]:List Pln).length<=1000000000:=by simp
 have hX:=cd3 [];obtain⟨m,r,e1,e2,e3,e4⟩:=Gd7 [] (pts []) hn (by omega)
 have hr:r=[]:=Qjs (by simpa using e4)
 subst hr;have hm:m=0:=by simpa using e2
 subst hm;obtain⟨m2,r2,k1,k2,k3⟩:=od7 [] 0 (by simp) hn
 have e1:J1 ⟨0,[],pts []⟩=_:=e1;unfold eb0;simp only[i5,i8,xc8 hn,xc9 hn,Gc7 hn,Gc8 hn,se9,e1];have hs:app (bL tP (Ya9 (slR tP (bL tP []) 0 0))) (l0 (bL tP []) 0)=bL tP []:=by
  rw[show slR tP (bL tP []) 0 0=[] from rfl,Hd0];rfl
 rw[hs,k1];have hfin:r2.take m2=[]:=by rw[k3];rfl
 exact af4 (P:=λr=>r=[]) k2 rfl hfin
noncomputable def Q3(l:List Pln):List Pln:=lean l
noncomputable def r7(l:List Pln):Bool:=decide (l.length<=1000000)
noncomputable def Yb0:Sum:=Y0 (P0 tP) λl=>.guard (r7 l) (.ret ((one (r1L tP)).enc (Q3 l),[]))
theorem tc8:g9 prog G 98 Yb0:=by
 refine Lf5 (Sd5 Sd0 λa r hr=>?_) (Sd5 zd1 λa r hr=>?_) (Sd5 zd3 λa r hr=>?_)
 ·obtain⟨p,c⟩:=a;obtain⟨hg,hr⟩:=DT.run_guard_some hr;have hl:c.length<=1000000:=by
   have:=of_decide_eq_true hg
   simp only[List.length_cons] at this;omega
  rw[Lf2 p c hl,Lf3 p c hl];exact hr
 ·obtain⟨hg,hr⟩:=DT.run_guard_some hr;have e:Xb4 a=lean []:=by unfold Xb4;rw[ie0,he9];exact Ga7 _ rfl
  have e2:Xb5 a=true:=by unfold Xb5;rw[ie0];exact Ta4 (r:=[]) _ rfl
  rw[e,e2];exact hr
 ·obtain⟨hg,hr⟩:=DT.run_guard_some hr;have e:Ic4 a=lean []:=by rw[he9];exact (ie1 a).p
  rw[e,show Ic5 a=true from (ie1 a).g]
  exact hr
end Go.Ev.Ce
namespace Go.Ev.Ce
def rmZ(p:Pln)(x:Pt):Int:=p.b*x.pw-(p.n.x*x.px+p.n.y*x.py+p.n.z*x.pz)
structure Inr(r:List Pln)(x:Pt):Prop where
 w:0<x.pw
 h:∀p∈r,0<=rmZ p x
def V9(p:Pln):Pln:=⟨⟨-p.n.x,-p.n.y,-p.n.z⟩,-p.b⟩
theorem Aa4(p:Pln)(x:Pt):rmZ (V9 p) x=-rmZ p x:=by unfold rmZ V9;grind
structure Cn(r:List Pln)(x:Pt):Prop extends Inr r x where
 c:∃p q s,p∈r/\q∈r/\s∈r/\mw p q s≠0/\rmZ p x=0/\rmZ q x=0/\rmZ s x=0
def Bdd(r:List Pln):Prop:=∀d:V3,d≠⟨0,0,0⟩->∃p∈r,0<dot p.n d
def go(x:Pt)(q:Pln)(d:V3):Pt:=⟨x.px*dot q.n d+rmZ q x*d.x,x.py*dot q.n d+rmZ q x*d.y,x.pz*dot q.n d+rmZ q x*d.z,x.pw*dot q.n d⟩
theorem ie2(p q:Pln)(x:Pt)(d:V3):rmZ p (go x q d)=dot q.n d*rmZ p x-rmZ q x*dot p.n d:=by simp only[rmZ,go,dot];grind
theorem mb1{a b c:Int}(hc:0<c)(h:a*c<=b*c):a<=b:=Int.le_of_mul_le_mul_right h hc
theorem first(x:Pt)(d:V3):∀r:List Pln,(∀p∈r,0<=rmZ p x)->(∃p∈r,0<dot p.n d)->∃q∈r,0<dot q.n d/\∀p∈r,0<dot p.n d->rmZ q x*dot p.n d<=rmZ p x*dot q.n d
 |[],_,h=>by obtain⟨p,hp,_⟩:=h;cases hp
 |a::r,hx,h=>by
  by_cases hr:∃p∈r,0<dot p.n d
  ·obtain⟨q,hq,h1,h2⟩:=first x d r (λp hp=>hx p (Qje _ hp)) hr
   by_cases ha:0<dot a.n d
   ·by_cases hc:rmZ q x*dot a.n d<=rmZ a x*dot q.n d
    ·refine⟨q,Qje _ hq,h1,λp hp h3=>?_⟩
     rcases Qjd.1 hp with rfl|hp
     ·exact hc
     ·exact h2 p hp h3
    ·refine⟨a,Qjf,ha,λp hp h3=>?_⟩
     rcases Qjd.1 hp with rfl|hp
     ·exact Int.le_refl _
     ·have h4:=h2 p hp h3;have h5:rmZ a x*dot q.n d<rmZ q x*dot a.n d:=by omega
      have h6:=Qjq h4 (Qjg ha);have h7:=Int.mul_lt_mul_of_pos_right h5 h3;have e1:rmZ q x*dot p.n d*dot a.n d=rmZ q x*dot a.n d*dot p.n d:=by grind
      have e2:rmZ a x*dot q.n d*dot p.n d=rmZ a x*dot p.n d*dot q.n d:=by grind
      have e3:rmZ p x*dot q.n d*dot a.n d=rmZ p x*dot a.n d*dot q.n d:=by grind
      refine mb1 h1 ?_;omega
   ·refine⟨q,Qje _ hq,h1,λp hp h3=>?_⟩
    rcases Qjd.1 hp with rfl|hp
    ·exact absurd h3 ha
    ·exact h2 p hp h3
  ·have ha : 0 < dot a.n d := by
    obtain⟨p,hp,h3⟩:=h
    rcases Qjd.1 hp with rfl|hp
    ·exact h3
    ·exact absurd ⟨p,hp,h3⟩ hr
   refine⟨a,Qjf,ha,λp hp h3=>?_⟩
   rcases Qjd.1 hp with rfl|hp
   ·exact Int.le_refl _
   ·exact absurd ⟨p,hp,h3⟩ hr
theorem step{r:List Pln}{x:Pt}(hx:Inr r x)(d:V3)(h:∃p∈r,0<dot p.n d):∃q∈r,0<dot q.n d/\Inr r (go x q d):=by
 obtain⟨q,hq,h1,h2⟩:=first x d r hx.h h;refine⟨q,hq,h1,⟨Qjag hx.w h1,λp hp=>?_⟩⟩
 rw[ie2];have h3:=hx.h p hp;have h4:=hx.h q hq;by_cases h5:0<dot p.n d
 ·have:=h2 p hp h5
  have e:rmZ p x*dot q.n d=dot q.n d*rmZ p x:=Int.mul_comm _ _;omega
 ·have h6:=Qji (Qjg h1) h3;have h7:rmZ q x*dot p.n d<=0:=Int.mul_nonpos_of_nonneg_of_nonpos h4 (by omega)
  omega
theorem bf4{h q:Pln}{x:Pt}{d:V3}(h1:0<=rmZ q x)(h2:0<=dot h.n d):rmZ h (go x q d)*x.pw<=rmZ h x*(go x q d).pw\/x.pw<=0:=by
 rcases Int.lt_or_le 0 x.pw with hw|hw
 ·left;rw[ie2]
  have:=Qji h1 h2
  have h3:=Qji this (Qjg hw);have e:rmZ h x*(go x q d).pw=dot q.n d*rmZ h x*x.pw:=by unfold go;grind
  have e2:(dot q.n d*rmZ h x-rmZ q x*dot h.n d)*x.pw=dot q.n d*rmZ h x*x.pw-rmZ q x*dot h.n d*x.pw:=by grind
  omega
 ·exact .inr hw
def neg(d:V3):V3:=⟨-d.x,-d.y,-d.z⟩
theorem Ae8(a d:V3):dot a (neg d)=-dot a d:=by unfold dot neg;grind
theorem Sd9{d:V3}(h:d≠⟨0,0,0⟩):neg d≠⟨0,0,0⟩:=λh'=>h (by
 cases d;unfold neg at h';simp only[V3.mk.injEq] at h' ⊢;omega)
theorem turn(h:Pln){d:V3}(hd:d≠⟨0,0,0⟩):∃e,e≠(⟨0,0,0⟩:V3)/\0<=dot h.n e/\∀a,dot a d=0->dot a e=0:=by
 by_cases h1:0<=dot h.n d
 ·exact⟨d,hd,h1,λ_ h=>h⟩
 ·exact⟨neg d,Sd9 hd,by rw[Ae8];omega,λa h=>by rw[Ae8,h];rfl⟩
theorem Lf6{n:V3}(hn:n≠⟨0,0,0⟩):∃d,d≠(⟨0,0,0⟩:V3)/\dot n d=0:=by
 by_cases h:n.x=0/\n.y=0
 ·exact⟨⟨1,0,0⟩,by simp,by unfold dot;simp[h.1]⟩
 ·refine⟨⟨n.y,-n.x,0⟩,λh'=>h ?_,by unfold dot;grind⟩
  simp only[V3.mk.injEq] at h';omega
theorem V3.ext'{a b:V3}(h1:a.x=b.x)(h2:a.y=b.y)(h3:a.z=b.z):a=b:=by cases a;cases b;simp_all
theorem ie3{m n d:V3}(hm:m≠⟨0,0,0⟩)(h1:dot m d=0)(h2:dot n d≠0):d9 m n≠⟨0,0,0⟩:=λh=>by
 unfold d9 at h;simp only[V3.mk.injEq] at h;obtain⟨c1,c2,c3⟩:=h;unfold dot at h1 h2;have e1:m.x*(n.x*d.x+n.y*d.y+n.z*d.z)=0:=by grind
 have e2:m.y*(n.x*d.x+n.y*d.y+n.z*d.z)=0:=by grind
 have e3:m.z*(n.x*d.x+n.y*d.y+n.z*d.z)=0:=by grind
 have k:∀{a:Int},a*(n.x*d.x+n.y*d.y+n.z*d.z)=0->a=0:=λh=>(Int.mul_eq_zero.1 h).resolve_right h2
 exact hm (V3.ext' (k e1) (k e2) (k e3))
theorem Uc9(a b:V3):dot a (d9 a b)=0:=by unfold dot d9;grind
theorem Vc0(a b:V3):dot b (d9 a b)=0:=by unfold dot d9;grind
theorem bf5{p q:Pln}{x:Pt}{d:V3}(h:rmZ p x=0)(h':dot p.n d=0):rmZ p (go x q d)=0:=by rw[ie2,h,h'];simp
theorem bf6(q:Pln)(x:Pt)(d:V3):rmZ q (go x q d)=0:=by rw[ie2];grind
theorem Xf9{q:Pln}{d:V3}(h:0<dot q.n d):q.n≠⟨0,0,0⟩:=λh'=>by rw[h'] at h;unfold dot at h;simp at h
theorem Ef7{a b c u v w:Int}(hu:0<u)(hv:0<v)(hw:0<w)(h1:a*v<=b*u)(h2:b*w<=c*v):a*w<=c*u:=by
 have h3:=Qjq h1 (Qjg hw);have h4:=Qjq h2 (Qjg hu);have e1:a*v*w=a*w*v:=by grind
 have e2:b*u*w=b*w*u:=by grind
 have e3:c*v*u=c*u*v:=by grind
 exact mb1 hv (by omega)
theorem bf7{r:List Pln}(hb:Bdd r)(h:Pln){x:Pt}(hx:Inr r x):∃v,Cn r v/\rmZ h v*x.pw<=rmZ h x*v.pw:=by
 obtain⟨d0,n0,p0,_⟩:=turn h (d:=⟨1,0,0⟩) (by simp)
 obtain⟨q1,m1,k1,i1⟩:=step hx d0 (hb d0 n0);have l1:=(bf4 (h:=h) (x:=x) (hx.h q1 m1) p0).resolve_right (by have:=hx.w;omega)
 obtain⟨e1,ne1,he1⟩:=Lf6 (Xf9 k1);obtain⟨d1,n1,p1,z1⟩:=turn h ne1;obtain⟨q2,m2,k2,i2⟩:=step i1 d1 (hb d1 n1);have l2:=(bf4 (h:=h) (x:=go x q1 d0) (i1.h q2 m2) p1).resolve_right (by have:=i1.w;omega)
 have hc:=ie3 (Xf9 k1) (z1 _ he1) (n:=q2.n) (by omega)
 obtain⟨d2,n2,p2,z2⟩:=turn h hc;obtain⟨q3,m3,k3,i3⟩:=step i2 d2 (hb d2 n2);have l3:=(bf4 (h:=h) (x:=go (go x q1 d0) q2 d1) (i2.h q3 m3) p2).resolve_right (by have:=i2.w;omega)
 have a1:rmZ q1 (go (go x q1 d0) q2 d1)=0:=bf5 (bf6 _ _ _) (z1 _ he1);refine⟨_,⟨i3,q3,q1,q2,m3,m1,m2,λh0=>?_,bf6 _ _ _,bf5 a1 (z2 _ (Uc9 _ _)),bf5 (bf6 _ _ _) (z2 _ (Vc0 _ _))⟩,?_⟩
 ·have:dot q3.n d2=0:=z2 _ h0
  omega
 ·exact Ef7 i3.w i2.w hx.w l3 (Ef7 i2.w i1.w hx.w l2 l1)
theorem ub1{r:List Pln}(hb:Bdd r){h:Pln}(hv:∀v,Cn r v->0<=rmZ h v){x:Pt}(hx:Inr r x):0<=rmZ h x:=by
 obtain⟨v,h1,h2⟩:=bf7 hb h hx;have h3:=Qji (hv v h1) (Qjg hx.w);exact mb1 h1.w (by rw[Int.zero_mul];omega)
def mid(x y:Pt):Pt:=⟨x.px*y.pw+y.px*x.pw,x.py*y.pw+y.py*x.pw,x.pz*y.pw+y.pz*x.pw,2*(x.pw*y.pw)⟩
theorem bf8(p:Pln)(x y:Pt):rmZ p (mid x y)=rmZ p x*y.pw+rmZ p y*x.pw:=by unfold rmZ mid;grind
theorem Inr.mid{r:List Pln}{x y:Pt}(hx:Inr r x)(hy:Inr r y):Inr r (mid x y):=⟨by unfold Ce.mid;exact Qjag (by decide) (Qjag hx.w hy.w),λp hp=>by
 rw[bf8];exact Int.add_nonneg (Qji (hx.h p hp) (Qjg hy.w)) (Qji (hy.h p hp) (Qjg hx.w))⟩
def Td0(r:List Pln):Prop:=∃x:Pt,0<x.pw/\∀p∈r,0<rmZ p x
theorem Ae9{r:List Pln}:∀(l:List Pln),(∀p∈l,p∈r)->(∃x,Inr r x)->(∀p∈l,∃v,Inr r v/\0<rmZ p v)->∃x,Inr r x/\∀p∈l,0<rmZ p x
 |[],_,h,_=>by obtain⟨x,h⟩:=h;exact⟨x,h,λp hp=>by cases hp⟩
 |a::l,hl,h,hv=>by
  obtain⟨x,h1,h2⟩:=Ae9 l (λp hp=>hl p (Qje _ hp)) h (λp hp=>hv p (Qje _ hp))
  obtain⟨y,h3,h4⟩:=hv a Qjf;refine⟨mid x y,h1.mid h3,λp hp=>?_⟩
  rw[bf8]
  rcases Qjd.1 hp with rfl|hp
  ·have:=Qji (h1.h p (hl p Qjf)) (Qjg h3.w)
   have:=Qjag h4 h1.w
   omega
  ·have:=Qjag (h2 p hp) h3.w
   have:=Qji (h3.h p (hl p (Qje _ hp))) (Qjg h1.w)
   omega
theorem bf9{r:List Pln}(hb:Bdd r)(h0:r≠[]):Td0 r↔∀p∈r,∃v,Cn r v/\0<rmZ p v:=by
 constructor
 ·intro ⟨x,hw,hx⟩ p hp;by_cases h:∃v,Cn r v/\0<rmZ p v
  ·exact h
  ·have hx':Inr r x:=⟨hw,λq hq=>Qjg (hx q hq)⟩
   have:=ub1 hb (h:=V9 p) (λv hv=>by
    rw[Aa4]
    have:¬ 0<rmZ p v:=λh'=>h ⟨v,hv,h'⟩
    omega) hx'
   rw[Aa4] at this
   have:=hx p hp
   omega
 ·intro h;obtain⟨p,hp⟩:=List.exists_mem_of_ne_nil r h0;obtain⟨v,hv,_⟩:=h p hp;obtain⟨x,h1,h2⟩:=Ae9 r (λ_ h=>h) ⟨v,hv.toInr⟩ λp hp=>by
   obtain⟨v,hv,h⟩:=h p hp;exact⟨v,hv.toInr,h⟩
  exact⟨x,h1.w,h2⟩
structure Eqv(x v:Pt):Prop where
 e1:x.px*v.pw=v.px*x.pw
 e2:x.py*v.pw=v.py*x.pw
 e3:x.pz*v.pw=v.pz*x.pw
theorem Eqv.rm{x v:Pt}(h:Eqv x v)(p:Pln):rmZ p x*v.pw=rmZ p v*x.pw:=by
 obtain⟨e1,e2,e3⟩:=h;unfold rmZ
 grind
theorem Eqv.inr{r:List Pln}{x v:Pt}(h:Eqv x v)(hw:0<x.pw)(hv:Inr r v):Inr r x:=⟨hw,λp hp=>by
 have:=h.rm p
 have h2:=Qji (hv.h p hp) (Qjg hw);exact mb1 hv.w (by rw[Int.zero_mul];omega)⟩
end Go.Ev.Ce
