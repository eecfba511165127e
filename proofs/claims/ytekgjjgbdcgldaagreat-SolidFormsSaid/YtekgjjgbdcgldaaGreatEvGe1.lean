/- Own work. -/
import Derived.Test.YtekgjjgbdcgldaaGreatEvOE6
import Derived.Shelf.SlSortCmp.WholeK
set_option linter.all false
def Qja:=@List.length_append
def Qjb:=@Nat.zero_add
def Qjc:=@List.length_take
def Qjd:=@List.length_set
def Qje:=@List.mem_cons
def Qjf:=@List.mem_cons_of_mem
def Qjg:=@Nat.beq_refl
def Qjh:=@List.length_drop
def Qji:=@List.mem_cons_self
def Qjj:=@Int.le_of_lt
def Qjk:=@Int.mul_nonneg
def Qjl:=@Nat.le_refl
def Qjm:=@List.getElem?_eq_getElem
def Qjn:=@Bool.and_true
def Qjo:=@Eq.trans
def Qjp:=@List.take_succ_eq_append_getElem
def Qjq:=@List.pairwise_cons
def Qjr:=@Int.mul_le_mul_of_nonneg_right
def Qjs:=@List.take_append_of_le_length
def Qjt:=@Nat.eq_of_beq_eq_true
def Qju:=@Bool.and_eq_true
def Qjv:=@List.getD_eq_getElem?_getD
def Qjw:=@Array.getElem?_append_left
def Qjx:=@List.getElem?_map
def Qjy:=@Nat.zero_le
def Qjz:=@List.take_of_length_le
def Qjaa:=@List.findIdx_lt_length_of_exists
def Qjab:=@List.filter_cons
def Qjac:=@Nat.blt_eq
def Qjad:=@Nat.mul_le_mul_right
def Qjae:=@List.append_nil
def Qjaf:=@List.eq_nil_of_length_eq_zero
def Qjag:=@Int.mul_pos
def Qjah:=@List.filter_append
def Qjai:=@List.findIdx_cons
def Qjaj:=@List.append_assoc
def Qjak:=@List.drop_eq_getElem_cons
def Qjal:=@List.any_eq_true
def Qjam:=@Array.getElem?_eq_none
def Qjan:=@List.drop_eq_nil_of_le
def Qjao:=@Nat.le_of_ble_eq_true
def Qjap:=@Array.getElem?_modify
def Qjaq:=@List.drop_zero
def Qjar:=@List.getElem_set_self
def Qjas:=@List.length_replicate
def Qjat:=@Nat.ble_eq
def Qjau:=@List.map_drop
def Qjav:=@Nat.lt_irrefl
namespace Go.Ev.Ce
open Go Go.Ev Go.Ev.L Go.Proofs
theorem Ke0(x:List Pln)(y:Pln)(hx:x.length<=1000000):ua7 x y=true:=(gf4 x y hx).g
theorem Gf4(x:List Pln)(y:Pln)(hx:x.length<=1000000):L4 x y≠[]/\(L4 x y).length<=x.length+1/\∀p∈L4 x y,p=y\/p∈x:=(gf4 x y hx).p
structure Fc(ph:Nat)(out:List Pln)(m:Nat):Prop where
 h:(ph=0/\out=[])\/ph=1
 l:out.length<=m
theorem Fc.more{ph m m':Nat}{out:List Pln}(h:Fc ph out m)(hm:m<=m'):Fc ph out m':=⟨h.h,Nat.le_trans h.l hm⟩
theorem wf7 (l : List V3) (hl : l.length ≤ 48) (a c : Nat) (ha : a < l.length) (hc : c < a) (h0 : Nat) (out : List Pln) (m : Nat) (hm : m ≤ 900000) (hf : Fc h0 out m) :
  ∃t s,lp (ba4 ⟨l,(a:Int),(c:Int)⟩) ⟨h0,0,out⟩=(t,s)/\(t=s.ph+1/\Fc s.ph s.ya9 (m+100)):=by
 refine S8 (step:=ba4 ⟨l,(a:Int),(c:Int)⟩) (mk:=λj (x:Nat×List Pln)=>(⟨x.1,(j:Int),x.2⟩:D0)) c (λj x=>Fc x.1 x.2 (m+2*j)/\j<=48) (λt s=>t=s.ph+1/\Fc s.ph s.ya9 (m+100)) (by omega) (λj x hj hx=>?_) (λj x hj hx=>?_) 0 (h0,out) ⟨hf,by omega⟩
 ·obtain⟨h,o⟩:=x;obtain⟨⟨hx,hx2⟩,_⟩:=hx;have hn:=n8 hj (show c<=4611686018427387904 by omega)
  have hh:∀p,pa6 p l=true:=λp=>Je9 p l (by omega)
  have hg1:∀y,ua7 o y=true:=λy=>Ke0 o y (by simp only at hx2;omega)
  have hp1:∀y,L4 o y≠[]/\(L4 o y).length<=o.length+1:=λy=>by have:=Gf4 o y (by simp only at hx2;omega);exact⟨this.1,this.2.1⟩
  have hg2:∀y z,ua7 (L4 o y) z=true:=λy z=>Ke0 _ z (by have:=(hp1 y).2;simp only at hx2;omega)
  have hp2:∀y z,(L4 (L4 o y) z).length<=o.length+2:=λy z=>by
   have:=(Gf4 (L4 o y) z (by have:=(hp1 y).2;simp only at hx2;omega)).2.1
   have:=(hp1 y).2
   omega
  simp only at hx hx2
  have stay:Fc h o (m+2*(j+1))/\j+1<=48:=⟨⟨hx,by omega⟩,by omega⟩
  have put1:∀y,Fc 1 (L4 o y) (m+2*(j+1))/\j+1<=48:=λy=>⟨⟨.inr rfl,by have:=(hp1 y).2;omega⟩,by omega⟩
  have put2:∀y z,Fc 1 (L4 (L4 o y) z) (m+2*(j+1))/\j+1<=48:=λy z=>⟨⟨.inr rfl,by have:=hp2 y z;omega⟩,by omega⟩
  rcases hx with⟨rfl,rfl⟩|rfl
  ·show Nx (N0 Stp.next Stp.exit Stp.fail _ _) _ _;simp only[N0,cb6,Int.toNat_natCast,i5,j9,hh,hg1,hg2,hn];rw[btD (g9 hj),bt (d9 ha),bt (d9 (show c<l.length by omega)),bt (d9 (show j<l.length by omega))]
   simp only[f0];refine Nx.sl (λ_=>.nx ⟨(0,[]),rfl,stay⟩) λ_=>Nx.sl (λ_=>Nx.sl (λ_=>.nx ⟨(1,_),rfl,put2 _ _⟩) λ_=>.nx ⟨(1,_),rfl,put1 _⟩) λ_=>Nx.sl (λ_=>.nx ⟨(1,_),rfl,put1 _⟩) λ_=>.nx ⟨(0,[]),rfl,stay⟩
  ·show Nx (N1 Stp.next Stp.exit Stp.fail _ _) _ _;simp only[N1,cb6,Int.toNat_natCast,i5,j9,hh,hg1,hg2,hn];rw[btD (g9 hj),bt (d9 ha),bt (d9 (show c<l.length by omega)),bt (d9 (show j<l.length by omega))]
   simp only[f0];refine Nx.sl (λ_=>.nx ⟨(1,o),rfl,stay⟩) λ_=>Nx.sl (λ_=>Nx.sl (λ_=>.nx ⟨(1,_),rfl,put2 _ _⟩) λ_=>.nx ⟨(1,_),rfl,put1 _⟩) λ_=>Nx.sl (λ_=>.nx ⟨(1,_),rfl,put1 _⟩) λ_=>.nx ⟨(1,o),rfl,stay⟩
 ·obtain⟨h,o⟩:=x;obtain⟨⟨hx,hx2⟩,h48⟩:=hx
  simp only at hx hx2
  rcases hx with⟨rfl,rfl⟩|rfl
  ·refine⟨1,?_,rfl,⟨.inl ⟨rfl,rfl⟩,by show 0<=_;omega⟩⟩
   show N0 Stp.next Stp.exit Stp.fail _ _=_;simp only[N0];rw[bfD (by omega)]
  ·refine⟨2,?_,rfl,⟨.inr rfl,by show o.length<=_;omega⟩⟩
   show N1 Stp.next Stp.exit Stp.fail _ _=_;simp only[N1];rw[bfD (by omega)]
theorem wf8 (l : List V3) (hl : l.length ≤ 48) (a : Nat) (ha : a < l.length) (h0 : Nat) (out : List Pln) (m : Nat) (hm : m ≤ 800000) (hf : Fc h0 out m) :
  ∃t s,lp (ba5 ⟨(a:Int)⟩) ⟨h0,l,0,out⟩=(t,s)/\(t=s.ph+1/\Fc s.ph s.ya9 (m+5000)/\s.k9=l):=by
 refine S8 (step:=ba5 ⟨(a:Int)⟩) (mk:=λj (x:Nat×List Pln)=>(⟨x.1,l,(j:Int),x.2⟩:D1)) a (λj x=>Fc x.1 x.2 (m+100*j)/\j<=48) (λt s=>t=s.ph+1/\Fc s.ph s.ya9 (m+5000)/\s.k9=l) (by omega) (λj x hj hx=>?_) (λj x hj hx=>?_) 0 (h0,out) ⟨hf,by omega⟩
 ·obtain⟨h,o⟩:=x;obtain⟨hx,_⟩:=hx;have hn:=n8 hj (show a<=4611686018427387904 by omega)
  simp only at hx
  obtain⟨t,s,e1,e2,e3⟩:=wf7 l hl a j ha hj h o (m+100*j) (by omega) hx
  obtain⟨s1,s2,s3⟩:=s
  simp only at e2 e3
  have go:Fc s1 s3 (m+100*(j+1))/\j+1<=48:=⟨e3.more (by omega),by omega⟩
  rcases hx.h with⟨rfl,rfl⟩|rfl
  ·show Nx (N2 Stp.next Stp.exit Stp.fail _ _) _ _;simp only[N2,i5,i9,hn];rw[btD (g9 hj),e1,e2]
   rcases e3.h with⟨rfl,rfl⟩|rfl
   ·exact .nx ⟨(0,[]),rfl,go⟩
   ·exact .nx ⟨(1,s3),rfl,go⟩
  ·show Nx (N4 Stp.next Stp.exit Stp.fail _ _) _ _;simp only[N4,i5,i9,hn];rw[btD (g9 hj),e1,e2]
   rcases e3.h with⟨rfl,rfl⟩|rfl
   ·exact .nx ⟨(0,[]),rfl,go⟩
   ·exact .nx ⟨(1,s3),rfl,go⟩
 ·obtain⟨h,o⟩:=x;obtain⟨hx,h48⟩:=hx
  simp only at hx
  have h2:=hx.more (show m+100*j<=m+5000 by omega)
  rcases hx.h with⟨rfl,rfl⟩|rfl
  ·refine⟨1,?_,rfl,h2,rfl⟩;show N2 Stp.next Stp.exit Stp.fail _ _=_;simp only[N2];rw[bfD (by omega)]
  ·refine⟨2,?_,rfl,h2,rfl⟩;show N4 Stp.next Stp.exit Stp.fail _ _=_;simp only[N4];rw[bfD (by omega)]
theorem wf9 (l : List V3) (hl : l.length ≤ 48) :
  ∃t s,lp (Aa7 ⟨⟩) ⟨0,l,0,[]⟩=(t,s)/\(t=s.ph+1/\Fc s.ph s.ya9 250000):=by
 refine S8 (step:=Aa7 ⟨⟩) (mk:=λj (x:Nat×List Pln)=>(⟨x.1,l,(j:Int),x.2⟩:E0)) l.length (λj x=>Fc x.1 x.2 (5000*j)/\j<=48) (λt s=>t=s.ph+1/\Fc s.ph s.ya9 250000) (by omega) (λj x hj hx=>?_) (λj x hj hx=>?_) 0 (0,[]) ⟨⟨.inl ⟨rfl,rfl⟩,Qjl _⟩,by omega⟩
 ·obtain⟨h,o⟩:=x;obtain⟨hx,_⟩:=hx;have hn:=n8 hj (show l.length<=4611686018427387904 by omega)
  simp only at hx
  obtain⟨t,s,e1,e2,e3,e4⟩:=wf8 l hl j hj h o (5000*j) (by omega) hx
  obtain⟨s1,s2,s3,s4⟩:=s
  simp only at e2 e3 e4
  subst e4;have go:Fc s1 s4 (5000*(j+1))/\j+1<=48:=⟨e3.more (by omega),by omega⟩
  rcases hx.h with⟨rfl,rfl⟩|rfl
  ·show Nx (N5 Stp.next Stp.exit Stp.fail ⟨⟩ _) _ _;simp only[N5,i5,i9,hn];rw[btD (g9 hj),e1,e2]
   rcases e3.h with⟨rfl,rfl⟩|rfl
   ·exact .nx ⟨(0,[]),rfl,go⟩
   ·exact .nx ⟨(1,s4),rfl,go⟩
  ·show Nx (N6 Stp.next Stp.exit Stp.fail ⟨⟩ _) _ _;simp only[N6,i5,i9,hn];rw[btD (g9 hj),e1,e2]
   rcases e3.h with⟨rfl,rfl⟩|rfl
   ·exact .nx ⟨(0,[]),rfl,go⟩
   ·exact .nx ⟨(1,s4),rfl,go⟩
 ·obtain⟨h,o⟩:=x;obtain⟨hx,h48⟩:=hx
  simp only at hx
  have h2:=hx.more (show 5000*j<=250000 by omega)
  rcases hx.h with⟨rfl,rfl⟩|rfl
  ·refine⟨1,?_,rfl,h2⟩;show N5 Stp.next Stp.exit Stp.fail ⟨⟩ _=_;simp only[N5];rw[bfD (by omega)]
  ·refine⟨2,?_,rfl,h2⟩;show N6 Stp.next Stp.exit Stp.fail ⟨⟩ _=_;simp only[N6];rw[bfD (by omega)]
theorem gf5(l:List Pln)(n:Int):(two (r1L tP) r1I).rd (.tup [eL tP l,i n],[])=some (l,n):=by
 have h:(r1L tP).rd [] (eL tP l)=some l:=by
  show Bool.rec (motive:=λ_=>Option (List Pln)) none (some (rt tP l)) (Bool.and (Nat.beq tP.es tP.es) (okE tP l))=_
  rw[i5,j9,Qjg];rfl
 simp only[two,h];rfl
theorem gf6(l:List V3)(hl:l.length<=48):Rd (two (r1L tP) r1I) (Oa6 l) (λr=>r.1.length<=250000):=by
 obtain⟨t,s,e1,e2,e3⟩:=wf9 l hl;unfold Oa6;simp only[i5,i9,j9,Qd4 l (show l.length<=1000000000 by omega),f0]
 refine Rd.sl (λ_=>⟨_,([],ub4 l),rfl,rfl,Qjy _⟩) λ_=>?_
 rw[e1,e2];obtain⟨s1,s2,s3,s4⟩:=s
 simp only at e3 ⊢
 rcases e3.h with⟨rfl,rfl⟩|rfl
 ·exact⟨_,([],0),rfl,rfl,Qjy _⟩
 ·exact⟨_,(s4,0),rfl,gf5 s4 0,e3.l⟩
theorem xf0(l:List V3)(hl:l.length<=48):Pb4 l=true:=(gf6 l hl).g
def phV(out:List V3):Nat:=match out with
 |[]=>0
 |_::_=>1
theorem xf1(out:List V3)(x:V3):phV (out++[x])=1:=by cases out<;>rfl
theorem qe9(l:List V3)(x1 x2 x3:Int):app (bL tV l) [[i x1,i x2,i x3]]=bL tV (l++[⟨x1,x2,x3⟩]):=Da3 tV l [⟨x1,x2,x3⟩]
theorem Yf3{l:List V3}{m:Nat}(h:m<l.length):(((Nat.blt (0+m) (len (bL tV l)))&&(Nat.ble (0+3) (len (d8 (bL tV l) (0+m)))))&&(Y1 [CK.int .i64,CK.int .i64,CK.int .i64] (f8 (d8 (bL tV l) (0+m)) 0)))=true:=by
 rw[Qjb,Q8 tV h,H7,show Nat.blt m l.length=true from by rw[Qjac];exact h]
 rfl
theorem Yf4{l:List V3}{m:Nat}(h:m<l.length):(((Nat.blt (0+m) (len (bL tV l)))&&(Nat.ble (2+1) (len (d8 (bL tV l) (0+m)))))&&(Y1 [CK.int .i64] (f8 (d8 (bL tV l) (0+m)) 2)))=true:=by
 rw[Qjb,Q8 tV h,H7,show Nat.blt m l.length=true from by rw[Qjac];exact h]
 rfl
theorem Yf5{n:Nat}{l:List V3}(hn:l.length=n)(h:n<=1000000000):(Nat.beq n (len (bL tV l))&&Nat.ble ((n+1)*24) room)=true:=by
 subst hn;rw[H7,Qjg,Bool.true_and,Qjat];unfold room;omega
theorem xf2 (x : List Int) (N : Nat) (h4 : 4 ≤ N) (h8 : N ≤ 8) (j0 : Int) (hj0 : 0 ≤ j0 ∧ j0 ≤ 10) :
  ∃idx out,lp (Za8 ⟨(N:Int)⟩) ⟨0,0,x,j0,0,[]⟩=(2,⟨1,(N:Int),x,idx,N,bL tV out⟩)/\out.length=N:=by
 have key:=S8 (step:=Za8 ⟨(N:Int)⟩) (mk:=λj (a:Int×List V3)=>(⟨phV a.2,(j:Int),x,a.1,a.2.length,bL tV a.2⟩:G5)) N
  (λj a=>a.2.length=j/\0<=a.1/\a.1<=10+4*j/\j<=N) (λt s=>t=2/\∃idx out,s=⟨1,(N:Int),x,idx,N,bL tV out⟩/\out.length=N) (by omega) (λj a hj ha=>?_) (λj a hj ha=>?_) 0 (j0,[]) ⟨rfl,hj0.1,by omega,by omega⟩
 ·obtain⟨t,s,e1,rfl,idx,out,e2,e3⟩:=key;exact⟨idx,out,by rw[<- e2];exact e1,e3⟩
 ·obtain⟨at0,out⟩:=a;obtain⟨ho,ha1,ha2,_⟩:=ha
  simp only at ho ha1 ha2
  have hn:=n8 hj (show N<=4611686018427387904 by omega)
  obtain⟨v1,j1,d1,_,_,c1,b1⟩:=za3 17 x at0 ha1 (by omega) (by omega) (by omega)
  obtain⟨v2,j2,d2,_,_,c2,b2⟩:=za3 17 x j1 (by omega) (by omega) (by omega) (by omega)
  obtain⟨v3,j3,d3,_,_,c3,b3⟩:=za3 17 x j2 (by omega) (by omega) (by omega) (by omega)
  obtain⟨v4,j4,d4,_,_,c4,b4⟩:=za3 6 x j3 (by omega) (by omega) (by omega) (by omega)
  have leaf : ∀ (E : Nat → Prop) (x1 x2 x3 : Int), Nx (.next (⟨1, ((j + 1 : Nat) : Int), x, j4, j + 1, bL tV (out ++ [⟨x1, x2, x3⟩])⟩ : G5)) E
    (λs=>∃a':Int×List V3,s=⟨phV a'.2,((j+1:Nat):Int),x,a'.1,a'.2.length,bL tV a'.2⟩/\a'.2.length=j+1/\0<=a'.1/\a'.1<=10+4*((j+1:Nat):Int)/\j+1<=N):=λE x1 x2 x3=>by
   have hl:(out++[(⟨x1,x2,x3⟩:V3)]).length=j+1:=by simp[ho]
   exact .nx ⟨(j4,out++[⟨x1,x2,x3⟩]),by simp only[xf1,hl],hl,by show 0<=j4;omega,by show j4<=_;omega,by omega⟩
  cases out with
  |nil =>
   have hj0':j=0:=by simpa using ho.symm
   subst hj0';show Nx (Aa8 Stp.next Stp.exit Stp.fail _ _) _ _;simp only[Aa8,i5,i9,d1,d2,d3,d4,hn];rw[btD (g9 hj)];have f1:decide (((0:Nat):Int)>1)=false:=rfl;have f2:decide (((0:Nat):Int)>0)=false:=rfl;have f3:decide (((0:Nat):Int)>2)=false:=rfl;have lf:∀(E:Nat->Prop) (x1 x2 x3:Int),Nx (.next (⟨1,((0+1:Nat):Int),x,j4,1,[[i x1,i x2,i x3]]⟩:G5)) E _:=leaf;simp only[f1,f2,f3,p7,Qjg,Qjn,f0];refine Nx.sl (λ_=>?_) (λ_=>?_)<;>refine Nx.sl (λ_=>?_) (λ_=>?_)
   all_goals first
    |exact lf _ _ _ _
    |(refine Nx.sl (λ_=>?_) (λ_=>?_)<;>exact lf _ _ _ _)
  |cons o os =>
   have h1:1<=j:=by simp only[List.length_cons] at ho;omega
   generalize hO:o::os=O at *
   have hph:phV O=1:=by subst hO;rfl
   have w1:W ((j:Int)-1)=((j-1:Nat):Int):=by rw[ka5 (by omega) (by omega)];omega
   have i1:inB ((j-1:Nat):Int) j=true:=d9 (by omega)
   have r1:=Yf3 (l:=O) (m:=j-1) (by omega)
   have r1':=Yf4 (l:=O) (m:=j-1) (by omega)
   have rr:=Yf5 ho (by omega)
   have f2:∀{inst:Decidable ((j:Int)>0)},@decide ((j:Int)>0) inst=true:=decide_eq_true (by omega)
   show Nx (sel (Nat.beq (phV O) 1) (S7 Stp.next Stp.exit Stp.fail _ _) _) _ _;rw[hph];show Nx (S7 Stp.next Stp.exit Stp.fail _ _) _ _;by_cases h2:2<=j
   ·have w2:W ((j:Int)-2)=((j-2:Nat):Int):=by rw[ka5 (by omega) (by omega)];omega
    have i2:inB ((j-2:Nat):Int) j=true:=d9 (by omega)
    have r2:=Yf3 (l:=O) (m:=j-2) (by omega)
    simp only[S7,i5,i9,d1,d2,d3,d4,hn,ho,w1,w2,i1,i2,Int.toNat_natCast,r1,r1',r2,rr,qe9];rw[btD (g9 hj)];simp only[Qjg,Qjn,f0]
    repeat' (first | exact leaf _ _ _ _ | refine Nx.sl (λ_=>?_) (λ_=>?_))
   ·have hj1:j=1:=by omega
    subst hj1;simp only[S7,i5,i9,d1,d2,d3,d4,hn,ho,w1,i1,Int.toNat_natCast,r1,r1',rr,qe9];have f1:decide (((1:Nat):Int)>1)=false:=rfl;rw[btD (g9 hj)];simp only[f1,p7,Qjg,Qjn,f0]
    repeat' (first | exact leaf _ _ _ _ | refine Nx.sl (λ_=>?_) (λ_=>?_))
 ·obtain⟨at0,out⟩:=a;obtain⟨ho,ha1,ha2,hjN⟩:=ha
  simp only at ho ha1 ha2
  have hj':j=N:=by omega
  subst hj';cases out with
  |nil=>simp only[List.length_nil] at ho;omega
  |cons o os =>
   refine⟨2,?_,rfl,at0,o::os,by rw[ho];rfl,ho⟩
   show S7 Stp.next Stp.exit Stp.fail _ _=_;simp only[S7];rw[bfD (by omega)]
theorem gf7{l:List V3}{n:Nat}{r:List (List b8)}{P:List V3->Prop}(hn:n=l.length)(hr:r=bL tV l)(h:P l):Rd (one (r1L tV)) (some (.sl 0 0 n 0,[⟨27,3,r,true,false,0⟩])) P:=by
 subst hn hr;refine⟨_,l,rfl,?_,h⟩;show Bool.rec (motive:=λ_=>Option (List V3)) none (some (slR tV (bL tV l) 0 l.length)) (Bool.and true (okS tV (bL tV l) 0 l.length))=_
 rw[Sb1,Sb2];rfl
theorem Qd5(x:List Int):Rd (one (r1L tV)) (ib3 x) (λr=>4<=r.length/\r.length<=8):=by
 obtain⟨v,j,e1,a1,b1,c1,d1⟩:=za3 5 x 0 (by omega) (by omega) (by omega) (by omega)
 have hN:W (4+v)=(((4+v).toNat:Nat):Int):=by rw[ka5 (by omega) (by omega)];omega
 obtain⟨idx,out,e2,e3⟩:=xf2 x (4+v).toNat (by omega) (by omega) j (by omega)
 unfold ib3;simp only[i5,i9,e1,hN,e2];have h4:4<=(4+v).toNat:=by omega
 have h8:(4+v).toNat<=8:=by omega
 generalize (4+v).toNat=N at *
 have s1:lsL tV N (λk=>d8 (bL tV out) (0+k))=out:=by rw[<- e3];exact Sb1 tV out
 have s2:okL tV N (λk=>d8 (bL tV out) (0+k))=true:=by rw[<- e3];exact Sb2 tV out
 have gf:ob5 out=true:=Ce9 out (by omega)
 rw[s1,s2,gf];simp only[Qjg,Qjn,f0,show Nat.beq 2 1=false from rfl,p7]
 refine Rd.sl (λ_=>?_) λ_=>gf7 e3.symm rfl ⟨by omega,by omega⟩
 have i0:inB 0 N=true:=d9 (j:=0) (by omega)
 have i1:inB 1 N=true:=d9 (j:=1) (by omega)
 have i2:inB 2 N=true:=d9 (j:=2) (by omega)
 have i3:inB 3 N=true:=d9 (j:=3) (by omega)
 have sp:∀(v:V3) (x1 x2 x3:Int),S3 (tV.row v) 0 [i x1,i x2,i x3]=tV.row ⟨x1,x2,x3⟩:=λ_ _ _ _=>rfl
 have rl:∀v:V3,Nat.ble (0+3) (len (tV.row v))=true:=λ_=>rfl
 have ck:∀v:V3,Y1 [CK.int .i64,CK.int .i64,CK.int .i64] (f8 (tV.row v) 0)=true:=λ_=>rfl
 have gr:∀(l:List V3) (k:Nat),l.length=N->k<4->d8 (bL tV l) k=tV.row (gL tV l k):=λl k hl hk=>Q8 tV (by omega)
 have bl:∀(l:List V3) (k:Nat),l.length=N->k<4->Nat.blt k (len (bL tV l))=true:=λl k hl hk=>by rw[H7,Qjac];omega
 have ls:∀(l:List V3) (k:Nat) (v:V3),l.length=N->(l.set k v).length=N:=λl k v hl=>by rw[Qjd];exact hl
 rw[gr out 0 e3 (by omega),gr out 1 e3 (by omega)]
 simp only[sp,Eb9];rw[gr _ 2 (ls out 1 _ e3) (by omega)]
 simp only[sp,Eb9];rw[gr _ 3 (ls _ 2 _ (ls out 1 _ e3)) (by omega)]
 simp only[sp,Eb9,rl,ck,i0,i1,i2,i3,bl out 0 e3 (by omega),bl out 1 e3 (by omega),bl _ 2 (ls out 1 _ e3) (by omega),bl _ 3 (ls _ 2 _ (ls out 1 _ e3)) (by omega),Qjn,f0]
 exact gf7 (by simp only[Qjd];omega) rfl (by simp only[Qjd];omega)
theorem gf8(x:List Int):Bb5 x=true:=(Qd5 x).g
theorem gf9(x:List Int):4<=(oa2 x).length/\(oa2 x).length<=8:=(Qd5 x).p
theorem hf0{l:List Pln}{P:List Pln->Prop}(h:P l):Rd (one (r1L tP)) (some (eL tP l,[])) P:=⟨_,l,rfl,Cc0 tP l,h⟩
theorem Qc6{l:List Pln}{k:Nat}(h:k<l.length):ldR tP (bL tP l) (0+k)=true:=by rw[Qjb];exact Xd3 tP h
theorem xc9{l:List Pln}{k:Nat}(h:k<l.length):rdR tP (bL tP l) (0+k)=gL tP l k:=by rw[Qjb];exact Xd2 tP h
theorem De2{α:Type}(t:Ty α)(k:Nat)(l:List α):(one (r1L t)).rd (.sl 0 0 l.length 0,[⟨k,t.es,bL t l,true,false,0⟩])=some l:=by
 show Bool.rec (motive:=λ_=>Option (List α)) none (some (slR t (bL t l) 0 l.length)) (Bool.and (Nat.beq t.es t.es) (okS t (bL t l) 0 l.length))=_
 rw[Sb1,Sb2,Qjg];rfl
theorem De3{l:List Pln}{n:Nat}{r:List (List b8)}{P:List Pln->Prop}(hn:n<=l.length)(hr:r=bL tP l)(h:P (l.take n)):Rd (one (r1L tP)) (some (.sl 0 0 n 0,[⟨73,4,r,true,false,0⟩])) P:=by
 subst hr;have e1:slR tP (bL tP l) 0 n=l.take n:=Fc7 tP (by rw[Qjc];omega) λk hk=>by
  rw[Qjb,Q8 tP (by omega)]
  congr 1;simp[gL,Qjv,List.getElem?_take,hk]
 have e2:okS tP (bL tP l) 0 n=true:=eb8 tP (f:=λk=>gL tP l k) λk hk=>by rw[Qjb,Q8 tP (by omega)]
 refine⟨_,l.take n,rfl,?_,h⟩;show Bool.rec (motive:=λ_=>Option (List Pln)) none (some (slR tP (bL tP l) 0 n)) (Bool.and true (okS tP (bL tP l) 0 n))=_
 rw[e1,e2];rfl
theorem hf3(k:Nat)(l:List Pln)(hk:k<l.length):∃s:Ca8,lp (ib5 ⟨(k:Int)⟩) ⟨l.length,bL tP l⟩=(1,s)/\∃out:List Pln,s=⟨out.length,bL tP out⟩/\out.length<=l.length+49:=by
 have key:=oc1 (step:=ib5 ⟨(k:Int)⟩) (I:=λm s=>∃out:List Pln,s=⟨out.length,bL tP out⟩/\k<out.length/\(out.length<=49\/out=l)/\m=49-out.length) (Q:=λt s=>t=1/\∃out:List Pln,s=⟨out.length,bL tP out⟩/\out.length<=l.length+49) (λm s ⟨out,hs,hk,ho,hm⟩=>by
  subst hs;simp only[ib5,qb8,Int.toNat_natCast,Qc6 hk,xc9 hk,d9 hk,f0,Ib7];by_cases h:(out.length:Int)<=48
  ·rw[btD h,H7,Qjg,S4 (by omega)]
   refine .inr ⟨_,49-(out.length+1),by omega,rfl,out++[gL tP out k],by rw[Qja];rfl,by rw[Qja];omega,.inl (by rw[Qja];simp only[List.length_singleton];omega),by rw[Qja];rfl⟩
  ·rw[bfD h];exact .inl ⟨1,rfl,rfl,out,rfl,by rcases ho with ho | rfl<;>omega⟩) (49-l.length) ⟨l.length,bL tP l⟩ (by omega) ⟨l,rfl,hk,.inr rfl,rfl⟩
 exact⟨_,Prod.ext key.1 rfl,key.2⟩
theorem Mf2(p:Pln)(v:V3):Rd (one r1P) (Yb4 p v) (λ_=>True):=by
 have h1:=Int.emod_nonneg v.z (show (9:Int)≠0 by omega)
 have h2:=Int.emod_lt_of_pos v.z (show (0:Int)<9 by omega)
 unfold Yb4;simp only[ed1 _ (show (0:Int)<9 by omega) (by omega),ed1 _ (show (0:Int)<5 by omega) (by omega),Je5 _ (show (0:Int)<9 by omega) (by omega),Je5 _ (show (0:Int)<5 by omega) (by omega)]
 have hin:inB (v.z % 9) 9=true:=by rw[Mc8];exact decide_eq_true (by omega)
 have hck:∀(x1 x2 x3 x4 x5 x6 x7 x8 x9:Int) (k:Nat),k<9->((Nat.ble 1 (len (d8 [[i x1],[i x2],[i x3],[i x4],[i x5],[i x6],[i x7],[i x8],[i x9]] (0+k))))&&(Y1 [CK.int .i64] (d8 [[i x1],[i x2],[i x3],[i x4],[i x5],[i x6],[i x7],[i x8],[i x9]] (0+k))))=true:=by
  intro x1 x2 x3 x4 x5 x6 x7 x8 x9 k hk
  match k,hk with
  |0,_=>rfl
  |1,_=>rfl
  |2,_=>rfl
  |3,_=>rfl
  |4,_=>rfl
  |5,_=>rfl
  |6,_=>rfl
  |7,_=>rfl
  |8,_=>rfl
 rw[hin,hck _ _ _ _ _ _ _ _ _ _ (by omega)]
 simp only[f0];exact Rd.sl (λ_=>⟨_,_,rfl,rfl,trivial⟩) λ_=>Rd.sl (λ_=>⟨_,_,rfl,rfl,trivial⟩) λ_=>Rd.sl (λ_=>⟨_,_,rfl,rfl,trivial⟩) λ_=>Rd.sl (λ_=>⟨_,_,rfl,rfl,trivial⟩) λ_=>Rd.sl (λ_=>⟨_,_,rfl,rfl,trivial⟩) λ_=>⟨_,_,rfl,rfl,trivial⟩
theorem Mf3(p:Pln)(v:V3):Yc3 p v=true:=(Mf2 p v).g
theorem hf4(x:List Pln)(y:V3)(hx:x.length<=1000000):Rd (one (r1L tP)) (Yb7 x y) (λr=>r.length<=x.length+50):=by
 have ea:app [] (bL tP x)=bL tP x:=rfl;have one0:Rd (one (r1L tP)) (some (.sl 0 0 1 0,[⟨73,4,[[i 0,i 0,i 0,i 0]],true,false,0⟩])) (λr=>r.length<=x.length+50):=Ib9 (l:=[⟨⟨0,0,0⟩,0⟩]) rfl rfl (by simp only[List.length_singleton];omega)
 unfold Yb7;simp only[Fa1,ea,H7,Qjb];rw[bt (show (Nat.beq 0 0&&Nat.ble (x.length*32) room)=true by rw[S4 (by omega)];rfl)]
 by_cases h0:x.length=0
 ·rw[show ((x.length:Int)==0)=true from by rw[h0];rfl]
  exact one0
 ·have zi:((x.length:Int)==0)=false:=by rw[beq_eq_false_iff_ne];omega
  have hk1:=Int.emod_nonneg y.y (show (x.length:Int)≠0 by omega)
  have hk2:=Int.emod_lt_of_pos y.y (show (0:Int)<(x.length:Int) by omega)
  rw[zi,Je5 y.y (show (0:Int)<(x.length:Int) by omega) (by omega),ed1 y.y (show (0:Int)<(x.length:Int) by omega) (by omega),ed1 y.x (show (0:Int)<6 by omega) (by omega),ed1 y.z (show (0:Int)<9 by omega) (by omega)]
  obtain⟨k,hk⟩:=Int.eq_ofNat_of_zero_le hk1;rw[hk] at hk2 ⊢;have hkx:k<x.length:=by omega
  have i1:inB (k:Int) x.length=true:=d9 hkx;have i2:inB (k:Int) (x.length+1)=true:=d9 (by omega)
  have w1:W ((k:Int)+1)=((k+1:Nat):Int):=n8 hkx (by omega)
  have i3:inB ((k+1:Nat):Int) (x.length+1)=true:=d9 (by omega)
  have hrow:d8 (bL tP x) k=tP.row (gL tP x k):=Q8 tP hkx;have hb:Nat.blt k x.length=true:=by rw[Qjac];exact hkx
  have hld:ldR tP (bL tP x) k=true:=Xd3 tP hkx;have hrd:rdR tP (bL tP x) k=gL tP x k:=Xd2 tP hkx;have sp:∀(v:Pln) (x1 x2 x3 x4:Int),S3 (tP.row v) 0 [i x1,i x2,i x3,i x4]=tP.row ⟨⟨x1,x2,x3⟩,x4⟩:=λ_ _ _ _ _=>rfl
  have sp3:∀(v:Pln) (x4:Int),S3 (tP.row v) 3 [i x4]=tP.row ⟨v.n,x4⟩:=λ_ _=>rfl
  have rl:∀v:Pln,Nat.ble 4 (len (tP.row v))=true:=λ_=>rfl
  have rl3:∀v:Pln,Nat.ble (3+1) (len (tP.row v))=true:=λ_=>rfl
  have ck3:∀v:Pln,Y1 [CK.int .i64] (f8 (tP.row v) 3)=true:=λ_=>rfl
  have b0:Nat.ble (x.length*32) room=true:=S4 (by omega)
  have b1:Nat.ble ((x.length+1)*32) room=true:=S4 (by omega)
  obtain⟨s,l1,out,l2,l3⟩:=hf3 k x hkx;have cutL:M2 (f8 (bL tP x) (k+1)) (x.length-(k+1))=bL tP (x.drop (k+1)):=by
   have hl:(bL tP x).length=x.length:=by rw[<- o4,H7]
   rw[M3,M4,Qjz (by rw[Qjh,hl];omega)]
   unfold bL;rw[o8,o8,Qjau]
  have cutT:M2 (bL tP x) (k-0)=bL tP (x.take k):=by
   unfold bL;rw[M3,o8,o8,List.map_take,Nat.sub_zero]
  have cutD:∀n,f8 (bL tP x) n=bL tP (x.drop n):=λn=>by
   unfold bL;rw[M4,o8,o8,Qjau]
  simp only[Int.toNat_natCast,i1,i2,w1,i3,hrow,hb,hld,hrd,sp,sp3,rl,rl3,ck3,b0,b1,Qjg,Bool.and_self,Qjn,f0,p7,Mf3,Eb9,Ib7,l1,l2,cutL];refine Rd.sl (λ_=>Ib9 (by rw[Qjd]) rfl (by rw[Qjd];omega)) λ_=>Rd.sl (λ_=>?_) λ_=>Rd.sl (λ_=>Ib9 (by rw[Qjd]) rfl (by rw[Qjd];omega)) λ_ =>
   Rd.sl (λ_=>Ib9 (by rw[Qja];rfl) rfl (by rw[Qja];simp only[List.length_singleton];omega)) λ_=>Rd.sl (λ_=>Ib9 (by rw[Qjd]) rfl (by rw[Qjd];omega)) λ_ =>
   Rd.sl (λ_=>Ib9 rfl rfl (by omega)) λ_=>Ib9 rfl rfl (by omega)
  rw[cutT,cutD,H7,Da3,Da3,Qjh,bt (by rw[Qjat];omega)]
  refine De3 ?_ rfl ?_
  ·simp only[Qja,Qjc,Qjh];omega
  ·rw[Qjc];simp only[Qja,Qjc,Qjh];omega
theorem Gf5(x:List Pln)(y:V3)(hx:x.length<=1000000):xc8 x y=true:=(hf4 x y hx).g
theorem Gf6(x:List Pln)(y:V3)(hx:x.length<=1000000):(ob7 x y).length<=x.length+50:=(hf4 x y hx).p
set_option maxRecDepth 100000
structure qb9 where
 (Ia0 Ia1 Ia2 jc9:Int)
 j6:List Pt
noncomputable def sc2:List (Nat×Sum):=[(153,Pb2)]
theorem id9:i8 prog G sc2:=⟨dc0,trivial⟩
structure Ga9 where
 of8:List Pt
 is8:Int
 j6:List Pt
 (fa7 fa8 fa9 ga0:Int)
structure X5 where
 (is4 is9:Int)
noncomputable def Yb9(p:Ga9)(s:X5):St:=⟨.unk::.unk::.ptr 1 0 0 0::.unk::i s.is4::.unk::.unk::eL tX p.of8::i p.is8::i s.is9::ra 12 [],[⟨0,1,[[eL tX p.j6]],true,false,0⟩,⟨0,4,[[i p.fa7,i p.fa8,i p.fa9,i p.ga0]],true,false,0⟩]⟩
noncomputable def wa2{α:Type}(k:X5->α)(e:Nat->α)(z:α)(p:Ga9)(s:X5):α:=let t1:=(Ca4 (⟨(⟨p.fa7,p.fa8,p.fa9⟩:V3),p.ga0⟩:Pln) (gL tX p.of8 s.is9.toNat));(sl (decide (s.is9<p.is8)) (sl (inB s.is9 (List.length p.of8)) (sl (t1==0) (k ⟨W (s.is4+1),W (s.is9+1)⟩) (k ⟨s.is4,W (s.is9+1)⟩)) z) (e 1))
noncomputable def Aa9(p:Ga9)(s:X5):Stp X5:=wa2 .next .exit .fail p s
noncomputable def yb2:Lo Ga9 X5:=⟨En sc2,1,Df8,[1,1,0,1,4,4],[2,4,7,8,9],.p,[⟨sUq::sUq::sPq 1::sUq::sIq::sUq::sUq::sLq tX::sIq::sIq::ru2 12 [],[⟨0,1,true,some [[.c 4 (nL tX)]]⟩,⟨0,4,true,some [kLq 4]⟩],λa H=>(⟨aLq tX a 7,aIq a 8,hLq tX H 0 0 0,hIq H 1 0 0,hIq H 1 0 1,hIq H 1 0 2,hIq H 1 0 3⟩,⟨aIq a 4,aIq a 9⟩)⟩],Aa9,[(some 0,λp s=>upq (Yb9 p s) [(10,b (decide (s.is9<p.is8)))])],Yb9⟩
theorem Yc5:yb2.Ok:=Lo.ok [] (by kernel_rfl) .nil rfl (.cons (λa H=>by kernel_rfl) .nil) λp s=>(.of @wa2 (λF _ _ _ _ _=>by unfold wa2;(repeat' apply l5 (f:=F))<;>rfl) (by kernel_rfl))
structure Ja4 where
 alt:Nat
 bs0:Bool
 j6:List Pt
noncomputable def Ja5{α:Type}(kk:Ja4->α)(x:qb9):α:=let t1:=(lp (Aa9 (⟨rt tX x.j6,(↑(List.length x.j6):Int),rt tX x.j6,x.Ia0,x.Ia1,x.Ia2,x.jc9⟩:Ga9)) (⟨0,0⟩:X5));(sl ((cnE tX x.j6)&&((cnE tX x.j6)&&true)) (sl (Nat.beq t1.1 1) (kk ⟨1,decide (t1.2.is4<3),rt tX x.j6⟩) (kk ⟨0,false,[]⟩)) (kk ⟨0,false,[]⟩))
noncomputable def ya1(x:qb9):Ja4:=Ja5 (λr=>r) x
noncomputable def Jb0(x:qb9)(r:Ja4):DT (b8×List b9):=(.ite (Nat.beq r.alt 1) (.ret (b r.bs0,[⟨0,1,[[eL tX r.j6]],true,false,0⟩])) .fail)
theorem Hd9{α β:Type}(F:α->β)(kk:Ja4->α)(x:qb9):F (Ja5 kk x)=Ja5 (λr=>F (kk r)) x:=by unfold Ja5;(repeat' apply l5 (f:=F))<;>rfl
noncomputable def Ub8:Sum:=eb9 ⟨[.agg (kLq 4),sPq 0],[⟨0,1,true,some [[.c 4 (nL tX)]]⟩],λa H=>(⟨cIq a 0 0,cIq a 0 1,cIq a 0 2,cIq a 0 3,hLq tX H 0 0 0⟩,())⟩ (λx=>Jb0 x (ya1 x))
theorem sc3:i7 prog G 152 Ub8:=Q9 (enc:=λx=>⟨[.agg [i x.Ia0,i x.Ia1,i x.Ia2,i x.jc9],.ptr 0 0 0 0],[⟨0,1,[[eL tX x.j6]],true,false,0⟩]⟩) (λa H=>by kernel_rfl) (bd hg8 id9) λx=>ma5 (.s .p (.s .p (.s (.s .p (.b (.u yb2.ls))) .p))) [yb2.pr] (by kernel_rfl) (.cons Yc5 .nil) (Qjo (b:=Ja5 (λr=>(Jb0 x r).run) x) (by kernel_rfl) (Hd9 (λr=>(Jb0 x r).run) (λr=>r) x).symm)
structure fa0 where
 ns0:Nat
 eh0:List (List b8)
 D8:List Pt
noncomputable def Oa8:List (Nat×Sum):=[(152,Ub8)]
theorem Bb6:i8 prog G Oa8:=⟨sc3,trivial⟩
structure Q1 where
 ns0:Nat
 is7:Int
 eh0:List (List b8)
structure r5 where
 is8:Int
 D8:List Pt
noncomputable def Ha0(p:Q1)(s:r5):St:=⟨.sl 0 0 p.ns0 0::.fn 152 [.ptr 1 0 0 0]::ra 5 (i p.is7::i s.is8::ra 10 []),[⟨73,4,p.eh0,true,false,0⟩,⟨0,1,[[eL tX s.D8]],true,false,0⟩]⟩
noncomputable def K4{α:Type}(k:r5->α)(e:Nat->α)(z:α)(p:Q1)(s:r5):α:=let t1:=(ya1 ⟨(rdR tP p.eh0 (0+s.is8.toNat)).n.x,(rdR tP p.eh0 (0+s.is8.toNat)).n.y,(rdR tP p.eh0 (0+s.is8.toNat)).n.z,(rdR tP p.eh0 (0+s.is8.toNat)).b,rt tX s.D8⟩);(sl (decide (s.is8<p.is7)) (sl (inB s.is8 p.ns0) (sl (ldR tP p.eh0 (0+s.is8.toNat)) (sl ((cnE tX s.D8)&&true) (sl (Nat.beq t1.alt 1) (sl t1.bs0 (e 1) (k ⟨W (s.is8+1),t1.j6⟩)) z) z) z) z) (e 2))
noncomputable def N7(p:Q1)(s:r5):Stp r5:=K4 .next .exit .fail p s
noncomputable def oa4:Lo Q1 r5:=⟨En Oa8,2,me2,[1,0,1,4,4],[0,1,7,8],.p,[⟨.s (.o (.sl 0 0 (some 0) none))::.fn 152 [.o (.ptr 1 0 0 0)]::ru2 5 (sIq::sIq::ru2 10 []),[⟨73,4,true,none⟩,⟨0,1,true,some [[.c 4 (nL tX)]]⟩],λa H=>(⟨slN (slT a 0),aIq a 7,elT H 0⟩,⟨aIq a 8,hLq tX H 1 0 0⟩)⟩],N7,[(none,λp s=>let t1:=(ya1 ⟨(rdR tP p.eh0 (0+s.is8.toNat)).n.x,(rdR tP p.eh0 (0+s.is8.toNat)).n.y,(rdR tP p.eh0 (0+s.is8.toNat)).n.z,(rdR tP p.eh0 (0+s.is8.toNat)).b,rt tX s.D8⟩);⟨[i s.is8],[⟨73,4,p.eh0,true,false,0⟩,⟨0,1,[[eL tX t1.j6]],true,false,0⟩]⟩),(some 0,λp s=>upq (Ha0 p s) [(9,b (decide (s.is8<p.is7)))])],Ha0⟩
theorem yb3:oa4.Ok:=Lo.ok [] (by kernel_rfl) .nil rfl (.cons (λa H=>by kernel_rfl) .nil) λp s=>(.of @K4 (λF _ _ _ _ _=>by unfold K4;(repeat' apply l5 (f:=F))<;>rfl) (by kernel_rfl))
structure fa1 where
 alt:Nat
 is0:Int
 D8:List Pt
noncomputable def L5{α:Type}(kk:fa1->α)(x:fa0):α:=let t1:=(lp (N7 (⟨x.ns0,(↑x.ns0:Int),x.eh0⟩:Q1)) (⟨0,rt tX x.D8⟩:r5));let t2:=(ya1 ⟨(rdR tP x.eh0 (0+t1.2.is8.toNat)).n.x,(rdR tP x.eh0 (0+t1.2.is8.toNat)).n.y,(rdR tP x.eh0 (0+t1.2.is8.toNat)).n.z,(rdR tP x.eh0 (0+t1.2.is8.toNat)).b,rt tX t1.2.D8⟩);(sl ((cnE tX x.D8)&&true) (sl (Nat.beq t1.1 1) (kk ⟨1,t1.2.is8,t2.j6⟩) (sl (Nat.beq t1.1 2) (kk ⟨1,-1,t1.2.D8⟩) (kk ⟨0,0,[]⟩))) (kk ⟨0,0,[]⟩))
noncomputable def fa2(x:fa0):fa1:=L5 (λr=>r) x
noncomputable def ra6(x:fa0)(r:fa1):DT (b8×List b9):=(.ite (Nat.beq r.alt 1) (.ret (i r.is0,[⟨73,4,x.eh0,true,false,0⟩,⟨0,1,[[eL tX r.D8]],true,false,0⟩])) .fail)
theorem Mb6{α β:Type}(F:α->β)(kk:fa1->α)(x:fa0):F (L5 kk x)=L5 (λr=>F (kk r)) x:=by unfold L5;(repeat' apply l5 (f:=F))<;>rfl
noncomputable def Ua1:Sum:=eb9 ⟨[.s (.o (.sl 0 0 (some 0) none)),.fn 152 [.o (.ptr 1 0 0 0)]],[⟨73,4,true,none⟩,⟨0,1,true,some [[.c 4 (nL tX)]]⟩],λa H=>(⟨slN (slT a 0),elT H 0,hLq tX H 1 0 0⟩,())⟩ (λx=>ra6 x (fa2 x))
theorem Jb1:i7 prog G 139 Ua1:=Q9 (enc:=λx=>⟨[.sl 0 0 x.ns0 0,.fn 152 [.ptr 1 0 0 0]],[⟨73,4,x.eh0,true,false,0⟩,⟨0,1,[[eL tX x.D8]],true,false,0⟩]⟩) (λa H=>by kernel_rfl) (bd uf5 Bb6) λx=>ma5 (.s .p (.s (.s .p (.b (.u oa4.ls))) .p)) [oa4.pr] (by kernel_rfl) (.cons yb3 .nil) (Qjo (b:=L5 (λr=>(ra6 x r).run) x) (by kernel_rfl) (Mb6 (λr=>(ra6 x r).run) (λr=>r) x).symm)
structure fa3 where
 ns0:Nat
 eh0:List (List b8)
 D8:List Pt
noncomputable def Oa9:List (Nat×Sum):=[(139,Ua1),(152,Ub8)]
theorem Bb7:i8 prog G Oa9:=⟨Jb1,sc3,trivial⟩
structure Q3 where
 ns0:Nat
structure y7 where
 (is5 is6:Int)
 eh0:List (List b8)
 D8:List Pt
noncomputable def Ha1(p:Q3)(s:y7):St:=⟨.sl 0 0 p.ns0 0::.fn 152 [.ptr 1 0 0 0]::ra 3 (i s.is5::i s.is6::ra 35 []),[⟨73,4,s.eh0,true,false,0⟩,⟨0,1,[[eL tX s.D8]],true,false,0⟩]⟩
noncomputable def K5{α:Type}(k:y7->α)(e:Nat->α)(z:α)(p:Q3)(s:y7):α:=let t1:=(ya1 ⟨(rdR tP s.eh0 (0+s.is6.toNat)).n.x,(rdR tP s.eh0 (0+s.is6.toNat)).n.y,(rdR tP s.eh0 (0+s.is6.toNat)).n.z,(rdR tP s.eh0 (0+s.is6.toNat)).b,rt tX s.D8⟩);(sl (decide (s.is6<(↑p.ns0:Int))) (sl (inB s.is6 p.ns0) (sl (ldR tP s.eh0 (0+s.is6.toNat)) (sl ((cnE tX s.D8)&&true) (sl (Nat.beq t1.alt 1) (sl (!t1.bs0) (sl (inB s.is5 p.ns0) (sl ((Nat.blt (0+s.is5.toNat) (len s.eh0))&&(Nat.ble (0+4) (len (d8 s.eh0 (0+s.is5.toNat))))) (k ⟨W (s.is5+1),W (s.is6+1),setAt s.eh0 (0+s.is5.toNat) (S3 (d8 s.eh0 (0+s.is5.toNat)) 0 [i (rdR tP s.eh0 (0+s.is6.toNat)).n.x,i (rdR tP s.eh0 (0+s.is6.toNat)).n.y,i (rdR tP s.eh0 (0+s.is6.toNat)).n.z,i (rdR tP s.eh0 (0+s.is6.toNat)).b]),t1.j6⟩) z) z) (k ⟨s.is5,W (s.is6+1),s.eh0,t1.j6⟩)) z) z) z) z) (e 1))
noncomputable def G1(p:Q3)(s:y7):Stp y7:=K5 .next .exit .fail p s
noncomputable def oa5:Lo Q3 y7:=⟨En Oa9,2,Df7,[1,1,1,0,1,4,4],[0,1,5,6],.p,[⟨.s (.o (.sl 0 0 (some 0) none))::.fn 152 [.o (.ptr 1 0 0 0)]::ru2 3 (sIq::sIq::ru2 35 []),[⟨73,4,true,none⟩,⟨0,1,true,some [[.c 4 (nL tX)]]⟩],λa H=>(⟨slN (slT a 0)⟩,⟨aIq a 5,aIq a 6,elT H 0,hLq tX H 1 0 0⟩)⟩],G1,[(some 0,λp s=>upq (Ha1 p s) [(16,i s.is6),(17,.sl 0 0 p.ns0 0),(18,i (↑p.ns0:Int)),(19,b (decide (s.is6<(↑p.ns0:Int))))])],Ha1⟩
theorem yb4:oa5.Ok:=Lo.ok [] (by kernel_rfl) .nil rfl (.cons (λa H=>by kernel_rfl) .nil) λp s=>(.of @K5 (λF _ _ _ _ _=>by unfold K5;(repeat' apply l5 (f:=F))<;>rfl) (by kernel_rfl))
structure fa4 where
 (alt ns0:Nat)
 eh0:List (List b8)
 D8:List Pt
noncomputable def L6{α:Type}(kk:fa4->α)(x:fa3):α:=let t1:=(fa2 ⟨x.ns0,x.eh0,rt tX x.D8⟩);let t2:=(lp (G1 (⟨x.ns0⟩:Q3)) (⟨t1.is0,W (t1.is0+1),x.eh0,rt tX t1.D8⟩:y7));(sl ((cnE tX x.D8)&&true) (sl (Nat.beq t1.alt 1) (sl (t1.is0==(-1)) (kk ⟨1,x.ns0,x.eh0,t1.D8⟩) (sl ((cnE tX t1.D8)&&true) (sl (Nat.beq t2.1 1) (sl (inB t2.2.is5 (x.ns0+1)) (sl (inB t2.2.is5 (x.ns0+1)) (kk ⟨1,t2.2.is5.toNat-0,app (M2 t2.2.eh0 (0+t2.2.is5.toNat)) (app (List.replicate (x.ns0-t2.2.is5.toNat) [i 0,i 0,i 0,i 0]) (f8 t2.2.eh0 ((0+t2.2.is5.toNat)+(x.ns0-t2.2.is5.toNat)))),t2.2.D8⟩) (kk ⟨0,0,[],[]⟩)) (kk ⟨0,0,[],[]⟩)) (kk ⟨0,0,[],[]⟩)) (kk ⟨0,0,[],[]⟩))) (kk ⟨0,0,[],[]⟩)) (kk ⟨0,0,[],[]⟩))
noncomputable def L7(x:fa3):fa4:=L6 (λr=>r) x
noncomputable def ra7(x:fa3)(r:fa4):DT (b8×List b9):=(.ite (Nat.beq r.alt 1) (.ret (.sl 0 0 r.ns0 0,[⟨73,4,r.eh0,true,false,0⟩,⟨0,1,[[eL tX r.D8]],true,false,0⟩])) .fail)
theorem Mb7{α β:Type}(F:α->β)(kk:fa4->α)(x:fa3):F (L6 kk x)=L6 (λr=>F (kk r)) x:=by unfold L6;(repeat' apply l5 (f:=F))<;>rfl
noncomputable def ua0:Sum:=eb9 ⟨[.s (.o (.sl 0 0 (some 0) none)),.fn 152 [.o (.ptr 1 0 0 0)]],[⟨73,4,true,none⟩,⟨0,1,true,some [[.c 4 (nL tX)]]⟩],λa H=>(⟨slN (slT a 0),elT H 0,hLq tX H 1 0 0⟩,())⟩ (λx=>ra7 x (L7 x))
theorem Pa0:i7 prog G 150 ua0:=Q9 (enc:=λx=>⟨[.sl 0 0 x.ns0 0,.fn 152 [.ptr 1 0 0 0]],[⟨73,4,x.eh0,true,false,0⟩,⟨0,1,[[eL tX x.D8]],true,false,0⟩]⟩) (λa H=>by kernel_rfl) (bd Xf3 Bb7) λx=>ma5 (.s .p (.s .p (.s .p (.s (.s .p (.b (.u oa5.ls))) .p)))) [oa5.pr] (by kernel_rfl) (.cons yb4 .nil) (Qjo (b:=L6 (λr=>(ra7 x r).run) x) (by kernel_rfl) (Mb7 (λr=>(ra7 x r).run) (λr=>r) x).symm)
structure oa6 where
 ns0:Nat
 eh0:List (List b8)
noncomputable def Ba0:List (Nat×Sum):=[]
theorem Ub9:i8 prog G Ba0:=trivial
structure I0 where
 (ns0 os4 ns4:Nat)
structure r9 where
 (is3 is5:Int)
 eh0:List (List b8)
noncomputable def Ua2(p:I0)(s:r9):St:=⟨.sl 0 0 p.ns0 0::.unk::.unk::i s.is3::.sl 0 p.os4 p.ns4 0::i s.is5::ra 55 [],[⟨73,4,s.eh0,true,false,0⟩]⟩
noncomputable def R4{α:Type}(k:r9->α)(e:Nat->α)(z:α)(p:I0)(s:r9):α:=(sl (decide (s.is5<(↑p.ns4:Int))) (sl (inB s.is5 p.ns4) (sl (ldR tP s.eh0 (p.os4+s.is5.toNat)) (sl (inB (W (s.is5-1)) p.ns4) (sl (ldR tP s.eh0 (p.os4+(W (s.is5-1)).toNat)) (sl (!(((rdR tP s.eh0 (p.os4+s.is5.toNat)).n.x==(rdR tP s.eh0 (p.os4+(W (s.is5-1)).toNat)).n.x)&&(((rdR tP s.eh0 (p.os4+s.is5.toNat)).n.y==(rdR tP s.eh0 (p.os4+(W (s.is5-1)).toNat)).n.y)&&(((rdR tP s.eh0 (p.os4+s.is5.toNat)).n.z==(rdR tP s.eh0 (p.os4+(W (s.is5-1)).toNat)).n.z)&&(((rdR tP s.eh0 (p.os4+s.is5.toNat)).b==(rdR tP s.eh0 (p.os4+(W (s.is5-1)).toNat)).b)&&true))))) (sl (inB s.is5 p.ns4) (sl (ldR tP s.eh0 (p.os4+s.is5.toNat)) (sl (inB s.is3 p.ns0) (sl ((Nat.blt (0+s.is3.toNat) (len s.eh0))&&(Nat.ble (0+4) (len (d8 s.eh0 (0+s.is3.toNat))))) (k ⟨W (s.is3+1),W (s.is5+1),setAt s.eh0 (0+s.is3.toNat) (S3 (d8 s.eh0 (0+s.is3.toNat)) 0 [i (rdR tP s.eh0 (p.os4+s.is5.toNat)).n.x,i (rdR tP s.eh0 (p.os4+s.is5.toNat)).n.y,i (rdR tP s.eh0 (p.os4+s.is5.toNat)).n.z,i (rdR tP s.eh0 (p.os4+s.is5.toNat)).b])⟩) z) z) z) z) (k ⟨s.is3,W (s.is5+1),s.eh0⟩)) z) z) z) z) (e 1))
noncomputable def w8(p:I0)(s:r9):Stp r9:=R4 .next .exit .fail p s
noncomputable def ya2:Lo I0 r9:=⟨En Ba0,1,df0,[1,1,0,1,4,4,1,0,4,1,2,1,0,1,4,4],[0,3,4,5],.p,[⟨.s (.o (.sl 0 0 (some 0) none))::sUq::sUq::sIq::.s (.o (.sl 0 0 none none))::sIq::ru2 55 [],[⟨73,4,true,none⟩],λa H=>(⟨slN (slT a 0),slO (slT a 4),slN (slT a 4)⟩,⟨aIq a 3,aIq a 5,elT H 0⟩)⟩],w8,[(some 2,λp s=>upq (Ua2 p s) [(29,i s.is5),(30,.sl 0 p.os4 p.ns4 0),(31,i (↑p.ns4:Int)),(32,b (decide (s.is5<(↑p.ns4:Int))))])],Ua2⟩
theorem Mb8:ya2.Ok:=Lo.ok [] (by kernel_rfl) .nil rfl (.cons (λa H=>by kernel_rfl) .nil) λp s=>(.of @R4 (λF _ _ _ _ _=>by unfold R4;(repeat' apply l5 (f:=F))<;>rfl) (by kernel_rfl))
structure V5 where
 ns0:Nat
 eh0:List (List b8)
structure A2 where
 is3:Int
noncomputable def Ua3(p:V5)(s:A2):St:=⟨.sl 0 0 p.ns0 0::.unk::.unk::i s.is3::ra 57 [],[⟨73,4,p.eh0,true,false,0⟩]⟩
noncomputable def R5{α:Type}(k:A2->α)(e:Nat->α)(z:α)(p:V5)(s:A2):α:=let t1:=(lp (w8 (⟨p.ns0,0+s.is3.toNat,p.ns0-s.is3.toNat⟩:I0)) (⟨s.is3,1,p.eh0⟩:r9));(sl (decide (s.is3<(↑p.ns0:Int))) (sl (inB s.is3 p.ns0) (sl (ldR tP p.eh0 (0+s.is3.toNat)) (sl (inB (W (s.is3-1)) p.ns0) (sl (ldR tP p.eh0 (0+(W (s.is3-1)).toNat)) (sl (((rdR tP p.eh0 (0+s.is3.toNat)).n.x==(rdR tP p.eh0 (0+(W (s.is3-1)).toNat)).n.x)&&(((rdR tP p.eh0 (0+s.is3.toNat)).n.y==(rdR tP p.eh0 (0+(W (s.is3-1)).toNat)).n.y)&&(((rdR tP p.eh0 (0+s.is3.toNat)).n.z==(rdR tP p.eh0 (0+(W (s.is3-1)).toNat)).n.z)&&(((rdR tP p.eh0 (0+s.is3.toNat)).b==(rdR tP p.eh0 (0+(W (s.is3-1)).toNat)).b)&&true)))) (sl (inB s.is3 (p.ns0+1)) (sl (Nat.beq t1.1 1) (sl (inB t1.2.is3 (p.ns0+1)) (sl (inB t1.2.is3 (p.ns0+1)) (e 1) z) z) z) z) (k ⟨W (s.is3+1)⟩)) z) z) z) z) (e 2))
noncomputable def U3(p:V5)(s:A2):Stp A2:=R5 .next .exit .fail p s
noncomputable def ya3:Lo V5 A2:=⟨En Ba0,1,df0,[1,1,0,1,4,4],[0,3],.s .p (.s (.b (.s .p (.c (.s .p (.s (.s .p (.b (.u ya2.ls))) .p)) .p))) .p),[⟨.s (.o (.sl 0 0 (some 0) none))::sUq::sUq::sIq::ru2 57 [],[⟨73,4,true,none⟩],λa H=>(⟨slN (slT a 0),elT H 0⟩,⟨aIq a 3⟩)⟩],U3,[(none,λp s=>let t1:=(lp (w8 (⟨p.ns0,0+s.is3.toNat,p.ns0-s.is3.toNat⟩:I0)) (⟨s.is3,1,p.eh0⟩:r9));⟨[.sl 0 0 (t1.2.is3.toNat-0) 0],[⟨73,4,app (M2 t1.2.eh0 (0+t1.2.is3.toNat)) (app (List.replicate (p.ns0-t1.2.is3.toNat) [i 0,i 0,i 0,i 0]) (f8 t1.2.eh0 ((0+t1.2.is3.toNat)+(p.ns0-t1.2.is3.toNat)))),true,false,0⟩]⟩),(some 0,λp s=>upq (Ua3 p s) [(10,i s.is3),(11,.sl 0 0 p.ns0 0),(12,i (↑p.ns0:Int)),(13,b (decide (s.is3<(↑p.ns0:Int))))])],Ua3⟩
theorem Mb9:ya3.Ok:=Lo.ok [ya2.pr] (by kernel_rfl) (.cons Mb8 .nil) rfl (.cons (λa H=>by kernel_rfl) .nil) λp s=>(.of @R5 (λF _ _ _ _ _=>by unfold R5;(repeat' apply l5 (f:=F))<;>rfl) (by kernel_rfl))
structure oa7 where
 (alt ns0:Nat)
 eh0:List (List b8)
noncomputable def S9{α:Type}(kk:oa7->α)(x:oa6):α:=let t1:=(lp (U3 (⟨x.ns0,x.eh0⟩:V5)) (⟨1⟩:A2));let t2:=(lp (w8 (⟨x.ns0,0+t1.2.is3.toNat,x.ns0-t1.2.is3.toNat⟩:I0)) (⟨t1.2.is3,1,x.eh0⟩:r9));(sl (decide ((↑x.ns0:Int)<2)) (kk ⟨1,x.ns0,x.eh0⟩) (sl (Nat.beq t1.1 1) (kk ⟨1,t2.2.is3.toNat-0,app (M2 t2.2.eh0 (0+t2.2.is3.toNat)) (app (List.replicate (x.ns0-t2.2.is3.toNat) [i 0,i 0,i 0,i 0]) (f8 t2.2.eh0 ((0+t2.2.is3.toNat)+(x.ns0-t2.2.is3.toNat))))⟩) (sl (Nat.beq t1.1 2) (kk ⟨1,x.ns0,x.eh0⟩) (kk ⟨0,0,[]⟩))))
noncomputable def ba6(x:oa6):oa7:=S9 (λr=>r) x
noncomputable def Ba1(x:oa6)(r:oa7):DT (b8×List b9):=(.ite (Nat.beq r.alt 1) (.ret (.sl 0 0 r.ns0 0,[⟨73,4,r.eh0,true,false,0⟩])) .fail)
theorem ec6{α β:Type}(F:α->β)(kk:oa7->α)(x:oa6):F (S9 kk x)=S9 (λr=>F (kk r)) x:=by unfold S9;(repeat' apply l5 (f:=F))<;>rfl
noncomputable def Ea2:Sum:=eb9 ⟨[.s (.o (.sl 0 0 (some 0) none))],[⟨73,4,true,none⟩],λa H=>(⟨slN (slT a 0),elT H 0⟩,())⟩ (λx=>Ba1 x (ba6 x))
theorem cb7:i7 prog G 154 Ea2:=Q9 (enc:=λx=>⟨[.sl 0 0 x.ns0 0],[⟨73,4,x.eh0,true,false,0⟩]⟩) (λa H=>by kernel_rfl) (bd Xf4 Ub9) λx=>ma5 (.s .p (.s .p (.s (.s .p (.b (.u ya3.ls))) .p))) [ya3.pr] (by kernel_rfl) (.cons Mb9 .nil) (Qjo (b:=S9 (λr=>(Ba1 x r).run) x) (by kernel_rfl) (ec6 (λr=>(Ba1 x r).run) (λr=>r) x).symm)
noncomputable def xd4:List (Nat×Sum):=[]
theorem jd0:i8 prog G xd4:=trivial
noncomputable def Xa4(x:Int)(y:Int):Option (b8×List b9):=(sl (decide (x<y)) (some (i (-1),[])) (sl (decide (x>y)) (some (i 1,[])) (some (i 0,[]))))
noncomputable def ya4(x:Int)(y:Int):Int:=I6 (one r1I) (Xa4 x y)
noncomputable def ya5(x:Int)(y:Int):Bool:=okO (one r1I) (Xa4 x y)
noncomputable def Cc7:Sum:=ga1 cI cI (λx y=>.guard (ya5 x y) (.ret ((one r1I).enc (ya4 x y),[])))
theorem xd5:i7 prog G 141 Cc7:=La5 (bd hg5 jd0) (one r1I) (o:=Xa4) λx y=>w9 (by kernel_rfl)
noncomputable def Yc6:List (Nat×Sum):=[(141,Cc7)]
theorem Qc7:i8 prog G Yc6:=⟨xd5,trivial⟩
noncomputable def Ha2(x:Pln)(y:Pln):Option (b8×List b9):=let t1:=(ya4 x.n.x y.n.x);let t2:=(ya4 x.n.y y.n.y);let t3:=(ya4 x.n.z y.n.z);let t4:=(ya4 x.b y.b);(sl (ya5 x.n.x y.n.x) (sl (t1==0) (sl (ya5 x.n.y y.n.y) (sl (t2==0) (sl (ya5 x.n.z y.n.z) (sl (t3==0) (sl (ya5 x.b y.b) (sl (t4==0) (some (i t4,[])) (some (i t4,[]))) none) (some (i t3,[]))) none) (some (i t2,[]))) none) (some (i t1,[]))) none)
noncomputable def Za9(x:Pln)(y:Pln):Int:=I6 (one r1I) (Ha2 x y)
noncomputable def ab0(x:Pln)(y:Pln):Bool:=okO (one r1I) (Ha2 x y)
noncomputable def yb5:Sum:=ga1 (da1 tP) (da1 tP) (λx y=>.guard (ab0 x y) (.ret ((one r1I).enc (Za9 x y),[])))
theorem Yc7:i7 prog G 122 yb5:=La5 (bd gg2 Qc7) (one r1I) (o:=Ha2) λx y=>w9 (by kernel_rfl)
noncomputable def Id0:List (Nat×Sum):=[(109,Ab9),(110,xc5),(111,bb0)]
theorem xd6:i8 prog G Id0:=⟨Tb7,Hc1,zb4,trivial⟩
noncomputable def ib6(x:List Pln)(y:List Pln):Option (b8×List b9):=let t1:=(Da7 [rt tP x,rt tP y]);let t2:=(nb8 [rt tP x,rt tP y]);let t3:=(ra0 (rt tP t2));(sl ((okE tP x)&&((okE tP y)&&true)) (sl (Da8 [rt tP x,rt tP y]) (sl (!t1) (some (b true,[])) (sl ((okE tP x)&&((okE tP y)&&true)) (sl (nb9 [rt tP x,rt tP y]) (sl (okE tP t2) (sl (ra1 (rt tP t2)) (some (b (!t3),[])) none) none) none) none)) none) none)
noncomputable def Sa1(x:List Pln)(y:List Pln):Bool:=I6 (one r1B) (ib6 x y)
noncomputable def Sa2(x:List Pln)(y:List Pln):Bool:=okO (one r1B) (ib6 x y)
noncomputable def ec7:Sum:=ga1 (G4 tP) (G4 tP) (λx y=>.guard (Sa2 x y) (.ret ((one r1B).enc (Sa1 x y),[])))
theorem Cc8:i7 prog G 56 ec7:=La5 (bd b56 xd6) (one r1B) (o:=ib6) λx y=>w9 (by kernel_rfl)
structure Ve7 where
 (Ia0 Ia1 Ia2 jc9:Int)
 f9:List Pln
structure Ve8 where
 alt:Nat
 bs0:Bool
structure Dd1 where
 xa1:List Pt
 f9:List Pln
structure md7 where
 xa1:List Pt
 is7:Int
structure md8 where
 is8:Int
 f9:List Pln
structure Dd2 where
 alt:Nat
 is0:Int
 f9:List Pln
structure jd1 where
 xa1:List Pt
 f9:List Pln
structure jd2 where
 alt:Nat
 bs0:Bool
 f9:List Pln
noncomputable def re0:List (Nat×Sum):=[]
theorem ce1:i8 prog G re0:=trivial
structure ec8 where
 (l8 Me9 Ne0 Ne1 Ne2 Ne3:Int)
noncomputable def Jb2{α:Type}(kk:ec8->α)(x:V3)(y:V3):α:=(kk ⟨y.x,W (0-x.x),y.y,W (0-x.y),y.z,W (0-x.z)⟩)
noncomputable def xd7(x:V3)(y:V3):ec8:=Jb2 (λr=>r) x y
noncomputable def sc4(r:ec8):DT (b8×List b9):=.ret (.sl 0 0 6 0,[⟨73,4,[[i 1,i 0,i 0,i r.l8],[i (-1),i 0,i 0,i r.Me9],[i 0,i 1,i 0,i r.Ne0],[i 0,i (-1),i 0,i r.Ne1],[i 0,i 0,i 1,i r.Ne2],[i 0,i 0,i (-1),i r.Ne3]],true,false,0⟩])
theorem De4{α β:Type}(F:α->β)(kk:ec8->α)(x:V3)(y:V3):F (Jb2 kk x y)=Jb2 (λr=>F (kk r)) x y:=by unfold Jb2;(repeat' apply l5 (f:=F))<;>rfl
noncomputable def xd8:Sum:=ga1 (da1 tV) (da1 tV) (λx y=>sc4 (xd7 x y))
theorem re1:i7 prog G 63 xd8:=Ka8 (bd b63 ce1) λx y=>w9 (Qjo (b:=Jb2 (λr=>(sc4 r).run) x y) (by kernel_rfl) (De4 (λr=>(sc4 r).run) (λr=>r) x y).symm)
noncomputable def has(c:List Pln)(v:V3):Bool:=(chk c==0)&&(inV v&&inn c ⟨v.x,v.y,v.z,1⟩)
theorem re2{a c:List Pln}(ha:(chk a==0)=true)(hc:(chk c==0)=true):Bds (a++c++ws)/\(a++c++ws).length<=200:=by
 rw[beq_iff_eq,Hb8] at ha hc;refine⟨λp hp=>?_,by rw[Qja,Qja,show ws.length=6 from rfl];omega⟩
 rcases List.mem_append.1 hp with hp|hp
 ·rcases List.mem_append.1 hp with hp|hp
  ·exact rc1 (ha.2 p hp)
  ·exact rc1 (hc.2 p hp)
 ·exact Ff8 p hp
noncomputable def apart(a c:List Pln):Bool:=!((chk a==0)&&(chk c==0))||!Gd9 (a++c++ws)
theorem re3{a c:List Pln}(ha:a.length<=100000000)(hc:c.length<=100000000):ib6 a c=some (b (apart a c),[]):=by
 have hn:[a,c].length<=1000000000:=by simp
 have hl:∀x∈[a,c],x.length<=1000000000:=by
  intro x hx;simp only[Qje,List.not_mem_nil,or_false] at hx
  rcases hx with rfl|rfl<;>omega
 have hf:[a,c].flatten=a++c:=by simp
 have hfl:[a,c].flatten.length<=1000000000:=by rw[hf,Qja];omega
 unfold ib6 apart;simp only[i5,j9,oe9 _ hn hl,pe0 _ hn hl,Xf8 _ hn hfl,Xf9 _ hn hfl,hf,List.all_cons,List.all_nil,Qjn];cases h1:chk a==0 with
 |false=>rfl
 |true =>
  cases h2:chk c==0 with
  |false=>rfl
  |true =>
   obtain⟨q1,q2⟩:=re2 h1 h2;rw[ff3 _ q1 q2,ff4 _ q1 q2];rfl
theorem Ke1{a c:List Pln}(ha:a.length<=100000000)(hc:c.length<=100000000):Sa1 a c=apart a c:=by unfold Sa1;rw[re3 ha hc];rfl
theorem Ke2{a c:List Pln}(ha:a.length<=100000000)(hc:c.length<=100000000):Sa2 a c=true:=by unfold Sa2;rw[re3 ha hc];rfl
noncomputable def lies(a c:List Pln):Bool:=ful a&&((chk c==0)&&(pts a).all (inn c))
end Go.Ev.Ce
namespace Go.Ev.L
open Go Go.Ev Go.Sort Go.Proofs
section
variable{α:Type}[Inhabited α]{P:Program}{G:Nat->List Value}{g:FuncId}{S:Sum}{t:Ty α}{enc:α->List Value}{cf:α->α->Int}
theorem xf3 (hc : i7 P G g S) (hS : ∀ x y, (S [.agg (t.row x), .agg (t.row y)] []).run = some (i (cf x y), [])) (hG : ∀ n, G n = []) (he : ∀ x, t.row x = (enc x).map .v) (k blk off size : Nat) (w : World) :
  CmpLays P g #[] enc k cf blk off size w:=by
 intro m os dk _ x y;generalize sortWorldK enc k w blk off m dk os=w0;have hrow:∀(z:α),la1 (λ_=>⟨0,0,0⟩) [] (λ_ _=>False) w0 (.agg (t.row z)) (.agg (enc z).toArray):=λz=>by
  refine .agg _ _ (by rw[he];simp) λi u u' hu hu'=>?_
  rw[he,Qjx] at hu;have hu':(enc z)[i]?=some u':=by simpa using hu'
  rw[hu'] at hu;injection hu with hu;subst hu;exact .v _
 obtain⟨_,h⟩:=hc _ _ _ _ (hS x y) (λk=>w0.heap.size<=k) (λ_=>⟨0,0,0⟩) (λ_ _=>False) w0 [.agg (enc x).toArray,.agg (enc y).toArray]
  ⟨λid b hb=>by simp at hb,λid id' b b' hb=>by simp at hb,λb o hf=>hf.elim,λk hk=>hk⟩ rfl
  (λi u u' hu hu'=>by
   match i,hu,hu' with
   |0,hu,hu'=>cases hu;cases hu';exact .val (hrow x)
   |1,hu,hu'=>cases hu;cases hu';exact .val (hrow y))
  (λn c v hv=>by rw[hG] at hv;simp at hv)
 refine h.mono λe w' ⟨r',h1,ρ',F',h2,h3,h4⟩=>?_
 have h5:=ma4 h4;subst h5;refine⟨h1,w'.drawn-w0.drawn,w'.heap.extract w0.heap.size w'.heap.size,?_⟩;have hd:=h2.ext.drawn;have hs:=h2.ext.size;have hheap:w'.heap=w0.heap++w'.heap.extract w0.heap.size w'.heap.size:=by
  apply Array.ext_getElem?;intro j
  rcases Nat.lt_or_ge j w0.heap.size with hj|hj
  ·rw[Qjw hj,h2.ext.block j hj (by omega)]
  ·rw[Array.getElem?_append_right hj,Array.getElem?_extract];have e:w0.heap.size+(j-w0.heap.size)=j:=by omega
   rw[e];split
   ·rfl
   ·rw[Qjam (by omega)]
 obtain⟨hp,tp,dr,os',out⟩:=w';have e1:=h2.ext.os;have e2:=h2.ext.tape;have e3:=h2.ext.output
 simp only at e1 e2 e3 hd hheap
 subst e1 e2 e3;unfold grow World.drewN
 simp only
 congr 1;omega
noncomputable def hf5(t:Ty α)(g:Nat)(et:Nat)(srt:List α->List α):Sum:=λargs blks=>match args,blks with
 |[.sl 0 0 n 0,.fn g' []],[⟨et',es',el,true,false,0⟩] =>
  Bool.rec (motive:=λ_=>DT (b8×List b9)) .fail (.guard (Bool.and (Nat.ble n room) (Bool.and (Nat.ble n (len el)) (okS t el 0 n))) (.ret (.v (.tuple #[]),[⟨et',es',app (bL t (srt (slR t el 0 n))) (f8 el n),true,false,0⟩])))
   (Bool.and (Nat.beq g' g) (Bool.and (Nat.beq et' et) (Nat.beq es' t.es)))
 |_,_=>.fail
theorem Qc8(l:List α)(j:Nat)(h:j<l.length):l.toArray[j]! = l[j]:=by
 rw[getElem!_pos l.toArray j (by simpa using h)]
 simp
theorem xf4 {f : FuncId} {et : Nat} {srt : List α → List α} (hcall : Eb3 P f) (hes : 0 < t.es) (he : ∀ x, t.row x = (enc x).map .v) (hx : ∀ r, t.ok r = true → r = t.row (t.rd r)) (h1 : ∀ x, ∀ v ∈ enc x, v.oneCell' = true)
  (hlen:∀l,(srt l).length=l.length) (hcl:∀blk off size w,CmpLays P g #[] enc t.es cf blk off size w)
  (hcon:∀(blk cap:Nat) (d:Array α) (w:World),(∀off size,CmpLays P g #[] enc t.es cf blk off size w)->HoldsK enc t.es w blk 0 d->blk<w.heap.size->d.size<4611686018427387904 ->
   Calls P f #[.slice (some ⟨blk,0,none⟩) d.size cap,.func (.func g) #[] #[]] w λe w'=>e=.returned (.tuple #[])/\∃n os,w'=sortWorldK enc t.es w blk 0 n (srt d.toList).toArray os) :
  i7 P G f (hf5 t g et srt):=by
 intro args blks r out hr W ρ F w args' hH hl hargs hG;refine⟨hcall,?_⟩;unfold hf5 at hr
 split at hr
 case h_2=>cases hr
 rename_i n g' et' es' el;cases hb0:Bool.and (Nat.beq g' g) (Bool.and (Nat.beq et' et) (Nat.beq es' t.es)) with
 |false=>rw[hb0] at hr;cases hr
 |true =>
 rw[hb0] at hr;rw[Qju,Qju] at hb0;have q1:=Qjt hb0.1;have q2:=Qjt hb0.2.1;have q3:=Qjt hb0.2.2;subst q1 q2 q3;obtain⟨hg0,hr⟩:=DT.run_guard_some hr;rw[Qju,Qju] at hg0;have hroom:n<=room:=Qjao hg0.1;have hn:=Qjao hg0.2.1;rw[o4] at hn;have hok:=hg0.2.2;injection hr with hr;injection hr with p1 p2;subst p1 p2
 match args',hl with
 |[v0,v1],_ =>
 obtain⟨a,cap,b,rfl,hb,hd,_,hncap,hspot,hcap,hq⟩:=Ua6 (hargs 0 _ _ rfl rfl);obtain⟨vs1,rfl,hvs1,_⟩:=bc0 (hargs 1 _ _ rfl rfl);have hvs1:vs1=#[]:=Array.eq_empty_of_size_eq_zero (by simpa using hvs1.symm)
 subst hvs1;rw[Cb5] at *
 have hb:b=⟨et',t.es,el,true,false,0⟩:=by simpa using hb.symm
 subst hb;obtain⟨ha,hsz,hne⟩:=hq rfl;have ha:a=⟨(ρ 0).blk,(ρ 0).off+0*t.es,none⟩:=ha.resolve_left λh=>by omega
 obtain⟨cc,tt,fr,hB⟩:=hH.blk 0 _ rfl rfl;obtain⟨hfr,hW,hoff,hsize,hnF,het⟩:=hB.own rfl;subst hfr;rw[hoff,Nat.zero_mul,Nat.add_zero] at ha;subst ha;generalize hbk:(ρ 0).blk=blk at *
 -- the rows asq data
 have hrow:∀j,j<n->d8 el j=(enc (gL t (slR t el 0 n) j)).map .v:=λj hj=>by
  have h2:t.ok (d8 el (0+j))=true:=List.all_eq_true.1 hok j (by simpa using hj)
  rw[Qjb] at h2;rw[<- he,slR,Ge8 t _ hj,Qjb];exact hx _ h2
 have hld:(slR t el 0 n).length=n:=wc5 ..;have hk:∀x,(enc x).length=t.es:=λx=>by have:=t.h0 x;rw[o4,he] at this;simpa using this
 have hlt:blk<w.heap.size:=by
  have:=hB.obj
  rcases Nat.lt_or_ge blk w.heap.size with h|h
  ·exact h
  ·rw[hbk,Qjam h] at this;cases this
 have hobj:w.heap[blk]?=some (.cells cc tt (0,0)):=by rw[<- hbk];exact hB.obj
 have hgd:∀(l:List α) (j:Nat) (h:j<l.length),gL t l j=l[j]:=λl j h=>by simp[gL,Qjv,Qjm h]
 have hdm:∀q,q<n*t.es->q / t.es<n/\q % t.es<t.es/\(q / t.es)*t.es+q % t.es=q:=λq hq=>⟨Nat.div_lt_of_lt_mul (by rw[Nat.mul_comm];exact hq),Nat.mod_lt _ hes,Nat.div_add_mod' q t.es⟩
 have hrowAt:∀j,j<el.length->el[j]?=some (d8 el j):=λj hj=>by
  unfold d8;rw[D9,Qjm hj]
 have hH0:HoldsK enc t.es w blk 0 (slR t el 0 n).toArray:=by
  intro q hq;have hq:q<n*t.es:=by rw[size_flatK] at hq;simpa [hld] using hq
  obtain⟨e1,e2,e3⟩:=hdm q hq;rw[get_flatK _ _ _ _ (by simpa [hld] using hq),Qc8 _ _ (by rw[hld];exact e1),<- hgd _ _ (by rw[hld];exact e1)]
  have hcx:(d8 el (q / t.es))[q % t.es]?=some (.v ((enc (gL t (slR t el 0 n) (q / t.es)))[q % t.es]!)):=by
   rw[hrow _ e1,Qjx,Qjm (by rw[hk];exact e2),getElem!_pos _ _ (by rw[hk];exact e2)]
   rfl
  obtain⟨x',h5,h6⟩:=hB.cell (q / t.es) _ (q % t.es) _ (hrowAt _ (by omega)) hcx
  have h6:x'=(enc (gL t (slR t el 0 n) (q / t.es)))[q % t.es]! :=by cases h6;rfl
  subst h6;rw[hoff] at h5;simp only[e3,Qjb] at h5;constructor
  ·simp only[World.cell?,hobj,Qjb];simpa using h5
  ·simp[World.frozen?,hobj]
 have hds:(slR t el 0 n).toArray.size=n:=by simpa using hld
 have hmax:n<4611686018427387904:=by unfold room at hroom;omega
 have hcalls:=hcon blk cap (slR t el 0 n).toArray w (λoff size=>hcl blk off size w) hH0 hlt (by rw[hds];exact hmax)
 rw[hds] at hcalls;refine hcalls.mono λe w' ⟨h5,m,os,h6⟩=>⟨_,h5,ρ,F,?_⟩
 generalize hsd:srt (slR t el 0 n)=sd at *
 have hsl:sd.length=n:=by rw[<- hsd,hlen,hld]
 have h6:w'=grow (mapBlock (Sort.ahead w m) blk (putCells id 0 (flatK enc t.es sd.toArray))) os:=h6;have hw'size:w'.heap.size=w.heap.size+os.size:=by rw[h6];simp[mapBlock]
 have hold:∀k,k<w.heap.size->k≠blk->w'.heap[k]?=w.heap[k]?:=λk h7 h8=>by
  rw[h6];simp only[grow,mapBlock];rw[Qjw (by simpa using h7),Qjap]
  simp[Ne.symm h8]
 have hnew:w'.heap[blk]?=some (.cells (putCells id 0 (flatK enc t.es sd.toArray) cc) tt (0,0)):=by
  rw[h6];simp only[grow,mapBlock];rw[Qjw (by simpa using hlt),Qjap]
  simp[hobj,onCells]
 have hcells:∀b o,F b o->w'.cell? ⟨b,o,none⟩=w.cell? ⟨b,o,none⟩:=λb o hf=>by
  have h7:b≠blk:=λh8=>hnF o (h8 ▸ hf)
  have:=ac8 (hH.frz b o hf)
  simp only[World.cell?,hold b this h7]
 have hpc:∀q,q<cc.size->(putCells id 0 (flatK enc t.es sd.toArray) cc)[q]?=if q<n*t.es then some ((enc sd.toArray[q / t.es]!)[q % t.es]!) else cc[q]?:=λq hq=>by
  simp only[putCells,Array.getElem?_mapIdx,Array.getElem?_eq_getElem hq,Option.map_some,size_flatK,Qjy,true_and,Qjb,Nat.sub_zero,id]
  have:sd.toArray.size=n:=by simpa using hsl
  rw[this];split
  ·next h7=>rw[get_flatK _ _ _ _ (by rw[this];exact h7)]
  ·rfl
 have hel:(app (bL t sd) (f8 el n)).length=el.length:=by
  rw[J9,Qja,<- o4 (bL t sd),H7,hsl,M4,Qjh];omega
 have hnrow:∀(j:Nat) r,(app (bL t sd) (f8 el n))[j]?=some r->(j<n/\r=t.row (gL t sd j))\/(n<=j/\el[j]?=some r):=λj r hr=>by
  have hlb:(bL t sd).length=n:=by rw[<- o4,H7,hsl]
  rw[J9] at hr
  rcases Nat.lt_or_ge j n with h7|h7
  ·rw[List.getElem?_append_left (by omega)] at hr
   left;refine⟨h7,?_⟩;unfold bL at hr;rw[o8,Qjx,Qjm (by omega)] at hr
   injection hr with hr;rw[<- hr,hgd sd j (by omega)]
  ·rw[List.getElem?_append_right (by omega),hlb,M4,List.getElem?_drop] at hr
   right;exact⟨h7,by rw[<- hr];congr 1;omega⟩
 have hcs:el.length*t.es<=cc.size:=by have:=hB.len;rw[hsize] at this;exact this
 refine⟨⟨⟨?_,?_,?_,by omega,λk h7 h8=>hold k h7 λh9=>h8 (h9 ▸ hW),hcells,?_⟩,λid b hb=>?_,λ_ _ h=>h,λ_ _ h=>.inl h,λid b' hb' hn'=>?_⟩,⟨λid b hb hd'=>?_,λid id' b b' hb hb' h7 h8 h9 h10=>?_,λb o hf=>by rw[hcells b o hf];exact hH.frz b o hf,λk hk'=>hH.new k (by omega)⟩,.ofv _⟩
 ·rw[h6];rfl
 ·rw[h6];rfl
 ·rw[h6];rfl
 ·rw[h6];exact Nat.le_add_right _ _
 ·match id,hb with
  |0,hb =>
   cases hb;exact⟨_,rfl,rfl,Qjl _,λ_=>⟨rfl,rfl,by simp only[hel];exact Qjl _⟩⟩
 ·match id,hb' with
  |0,hb'=>cases hb';exact absurd rfl (hn' ⟨et',t.es,el,true,false,0⟩ rfl)
 ·match id,hb with
  |0,hb =>
   cases hb;refine⟨_,tt,(0,0),by rw[hbk];exact hnew,?_,?_,?_,?_,λ_=>⟨rfl,by rw[hbk];exact hW,hoff,?_,by rw[hbk];exact hnF,het⟩,λh=>by cases h⟩
   ·rw[hoff,hsize];simp[putCells]
   ·simp only[hel];exact hB.len
   ·intro j r hr
    rcases hnrow j r hr with⟨_,h8⟩|⟨_,h8⟩
    ·rw[h8,<- o4];exact t.h0 _
    ·exact hB.rows j r h8
   ·intro j r c x hr hc;rw[hoff,Qjb]
    rcases hnrow j r hr with⟨h7,h8⟩|⟨h7,h8⟩
    ·subst h8;have hclt:c<t.es:=by
      have:=(List.getElem?_eq_some_iff.1 hc).1
      rw[<- o4,t.h0] at this;exact this
     have hq:j*t.es+c<n*t.es:=by
      have:=Qjad t.es (show j+1<=n from h7)
      rw[Nat.add_mul,Nat.one_mul] at this;omega
     have hqn:n*t.es<=el.length*t.es:=Qjad _ hn;have e1:(j*t.es+c) / t.es=j:=by rw[Nat.mul_comm,Nat.mul_add_div hes,Nat.div_eq_of_lt hclt,Nat.add_zero]
     have e2:(j*t.es+c) % t.es=c:=by rw[Nat.mul_comm,Nat.mul_add_mod,Nat.mod_eq_of_lt hclt]
     rw[he,Qjx,Qjm (by rw[hk];exact hclt)] at hc
     injection hc with hc;subst hc;refine⟨(enc (gL t sd j))[c]'(by rw[hk];exact hclt),?_,.v _ (h1 _ _ (List.getElem_mem _))⟩
     rw[hpc _ (Nat.lt_of_lt_of_le hq (Nat.le_trans hqn hcs)),if_pos hq,e1,e2,Qc8 _ _ (by omega),hgd sd j (by omega),getElem!_pos _ _ (by rw[hk];exact hclt)]
    ·obtain⟨x',h9,h10⟩:=hB.cell j r c x h8 hc;rw[hoff,Qjb] at h9;have hq:¬ j*t.es+c<n*t.es:=by
      have:=Qjad t.es h7
      omega
     have hlt':j*t.es+c<cc.size:=(Array.getElem?_eq_some_iff.1 h9).1;exact⟨x',by rw[hpc _ hlt',if_neg hq];exact h9,h10.adv (λ_ _ h=>h) hcells⟩
   ·rw[hsize];simp[putCells]
 ·match id,hb,id',hb' with
  |0,hb,0,hb'=>exact absurd rfl h10
end
end Go.Ev.L
namespace Go.Proofs
open Go.Shelf
set_option maxRecDepth 100000 in
def Ce.sortLay_ren:Go.Shelf.Ren:=⟨fun | 6=>121 | 15=>180 | 14=>179 | 28=>207 | 29=>208 | 20=>199 | 21=>200 | 22=>201 | 23=>202 | 24=>203 | 25=>204 | 26=>205 | 27=>206 | 46=>223 | 47=>224 | 48=>225 | 49=>226 | 50=>227 | 57=>233 | n=>n,fun | 22=>24 | 24=>73 | 25=>148 | 3=>3 | 39=>173 | 0=>0 | 53=>197 | 55=>199 | 4=>4 | 46=>191 | 45=>190 | 50=>50 | 5=>5 | 9=>9 | 66=>210 | 70=>214 | 76=>218 | 77=>219 | n=>n,fun | n=>n⟩
set_option maxRecDepth 100000 in
theorem Ce.sortLay:Go.Proofs.SlLaysF0.n6 Tryz.prog Ce.sortLay_ren:={
 mixed:=by kernel_rfl
 f6:=⟨Tryz.f121.name,by decide,Tryz.func121.trans (congrArg some (by kernel_rfl))⟩
 f14:=⟨Tryz.f179.name,by decide,Tryz.func179.trans (congrArg some (by kernel_rfl))⟩
 f15:=Tryz.func180.trans (congrArg some (by kernel_rfl))
 f20:=⟨Tryz.f199.name,by decide,Tryz.func199.trans (congrArg some (by kernel_rfl))⟩
 f21:=⟨Tryz.f200.name,by decide,Tryz.func200.trans (congrArg some (by kernel_rfl))⟩
 f22:=⟨Tryz.f201.name,by decide,Tryz.func201.trans (congrArg some (by kernel_rfl))⟩
 f23:=⟨Tryz.f202.name,by decide,Tryz.func202.trans (congrArg some (by kernel_rfl))⟩
 f24:=⟨Tryz.f203.name,by decide,Tryz.func203.trans (congrArg some (by kernel_rfl))⟩
 f25:=⟨Tryz.f204.name,by decide,Tryz.func204.trans (congrArg some (by kernel_rfl))⟩
 f26:=⟨Tryz.f205.name,by decide,Tryz.func205.trans (congrArg some (by kernel_rfl))⟩
 f27:=⟨Tryz.f206.name,by decide,Tryz.func206.trans (congrArg some (by kernel_rfl))⟩
 f28:=Tryz.func207.trans (congrArg some (by kernel_rfl))
 f29:=Tryz.func208.trans (congrArg some (by kernel_rfl))
 f46:=⟨Tryz.f223.name,by decide,Tryz.func223.trans (congrArg some (by kernel_rfl))⟩
 f47:=Tryz.func224.trans (congrArg some (by kernel_rfl))
 f48:=Tryz.func225.trans (congrArg some (by kernel_rfl))
 f49:=⟨Tryz.f226.name,by decide,Tryz.func226.trans (congrArg some (by kernel_rfl))⟩
 f50:=⟨Tryz.f227.name,by decide,Tryz.func227.trans (congrArg some (by kernel_rfl))⟩
 f57:=⟨Tryz.f233.name,by decide,Tryz.func233.trans (congrArg some (by kernel_rfl))⟩
 t0:=Tryz.underlying0
 a0:=Tryz.isAgg0
 z0:=Tryz.sizeOf0
 v0:=Tryz.zeroValue0
 t3:=Tryz.underlying3
 a3:=Tryz.isAgg3
 z3:=Tryz.sizeOf3
 v3:=Tryz.zeroValue3
 t4:=Tryz.underlying4
 a4:=Tryz.isAgg4
 z4:=Tryz.sizeOf4
 v4:=Tryz.zeroValue4
 t5:=Tryz.underlying5
 a5:=Tryz.isAgg5
 z5:=Tryz.sizeOf5
 v5:=Tryz.zeroValue5
 t9:=Tryz.underlying9
 a9:=Tryz.isAgg9
 z9:=Tryz.sizeOf9
 v9:=Tryz.zeroValue9
 t22:=Tryz.underlying24
 a22:=Tryz.isAgg24
 z22:=Tryz.sizeOf24
 v22:=Tryz.zeroValue24
 t25:=Tryz.underlying148
 a25:=Tryz.isAgg148
 z25:=Tryz.sizeOf148
 v25:=Tryz.zeroValue148
 t39:=Tryz.underlying173
 a39:=Tryz.isAgg173
 z39:=Tryz.sizeOf173
 v39:=Tryz.zeroValue173
 t45:=Tryz.underlying190
 a45:=Tryz.isAgg190
 z45:=Tryz.sizeOf190
 v45:=Tryz.zeroValue190
 t46:=Tryz.underlying191
 a46:=Tryz.isAgg191
 z46:=Tryz.sizeOf191
 v46:=Tryz.zeroValue191
 t50:=Tryz.underlying50
 a50:=Tryz.isAgg50
 z50:=Tryz.sizeOf50
 v50:=Tryz.zeroValue50
 t53:=Tryz.underlying197
 a53:=Tryz.isAgg197
 z53:=Tryz.sizeOf197
 v53:=Tryz.zeroValue197
 t55:=Tryz.underlying199
 a55:=Tryz.isAgg199
 z55:=Tryz.sizeOf199
 v55:=Tryz.zeroValue199
 t66:=Tryz.underlying210
 a66:=Tryz.isAgg210
 z66:=Tryz.sizeOf210
 v66:=Tryz.zeroValue210
 t70:=Tryz.underlying214
 a70:=Tryz.isAgg214
 z70:=Tryz.sizeOf214
 v70:=Tryz.zeroValue214
 t76:=Tryz.underlying218
 a76:=Tryz.isAgg218
 z76:=Tryz.sizeOf218
 v76:=Tryz.zeroValue218
 t77:=Tryz.underlying219
 a77:=Tryz.isAgg219
 z77:=Tryz.sizeOf219
 v77:=Tryz.zeroValue219 }
end Go.Proofs
namespace Go.Ev.Ce
open Go Go.Ev Go.Ev.L Go.Proofs Go.Sort
def Jb3(x y:Int):Int:=if x<y then -1 else if x>y then 1 else 0
def oa8(x y:Pln):Int :=
 if Jb3 x.n.x y.n.x=0 then if Jb3 x.n.y y.n.y=0 then if Jb3 x.n.z y.n.z=0 then Jb3 x.b y.b else Jb3 x.n.z y.n.z else Jb3 x.n.y y.n.y else Jb3 x.n.x y.n.x
theorem md9(x y:Int):Jb3 x y<0↔x<y:=by unfold Jb3;split<;>(try split)<;>omega
theorem ce2(x y:Int):Jb3 x y=0↔x=y:=by unfold Jb3;split<;>(try split)<;>omega
def LtP(x y:Pln):Prop:=x.n.x<y.n.x\/x.n.x=y.n.x/\(x.n.y<y.n.y\/x.n.y=y.n.y/\(x.n.z<y.n.z\/x.n.z=y.n.z/\x.b<y.b))
instance(x y:Pln):Decidable (LtP x y):=by unfold LtP;exact inferInstance
theorem ce3(x y:Pln):oa8 x y<0↔LtP x y:=by
 have h1:=md9 x.n.x y.n.x;have h2:=ce2 x.n.x y.n.x;have h3:=md9 x.n.y y.n.y;have h4:=ce2 x.n.y y.n.y;have h5:=md9 x.n.z y.n.z;have h6:=ce2 x.n.z y.n.z;have h7:=md9 x.b y.b;unfold oa8 LtP;split
 ·split
  ·split<;>omega
  ·omega
 ·omega
theorem ob8(x y:Pln):ltOf oa8 x y=decide (LtP x y):=by
 unfold ltOf;rw[decide_eq_decide];exact ce3 x y
theorem Yf6:SWO (ltOf oa8) where
 irrefl x:=by rw[ob8];simp[LtP]
 trans x y z h1 h2:=by rw[ob8,decide_eq_true_eq] at *;unfold LtP at *;omega
 ntrans x y z h1 h2:=by rw[ob8,decide_eq_false_iff_not] at *;unfold LtP at *;omega
theorem mg2(x y:Pln)(h1:ltOf oa8 x y=false)(h2:ltOf oa8 y x=false):x=y:=by
 rw[ob8,decide_eq_false_iff_not] at *
 unfold LtP at *
 obtain⟨⟨a,b,c⟩,d⟩:=x;obtain⟨⟨a',b',c'⟩,d'⟩:=y
 simp only at *
 have:a=a'/\b=b'/\c=c'/\d=d':=by omega
 obtain⟨rfl,rfl,rfl,rfl⟩:=this;rfl
theorem re4(x y:Int):Xa4 x y=some (i (Jb3 x y),[]):=by
 unfold Xa4 Jb3;simp only[Eb8,decide_eq_true_eq]
 split<;>(try split)<;>rfl
theorem xf5(x y:Int):ya4 x y=Jb3 x y:=by unfold ya4;rw[re4];rfl
theorem xf6(x y:Int):ya5 x y=true:=by unfold ya5;rw[re4];rfl
theorem xd9(x y:Pln):Ha2 x y=some (i (oa8 x y),[]):=by
 unfold Ha2 oa8;simp only[xf5,xf6,Eb8,beq_iff_eq,if_true]
 repeat' (first | rfl | split)
theorem Yf7(x y:Pln):Za9 x y=oa8 x y:=by unfold Za9;rw[xd9];rfl
theorem Yf8(x y:Pln):ab0 x y=true:=by unfold ab0;rw[xd9];rfl
theorem Yf9(x y:Pln):(yb5 [.agg (tP.row x),.agg (tP.row y)] []).run=some (i (oa8 x y),[]):=by
 have:(yb5 [.agg (tP.row x),.agg (tP.row y)] []).run=sel (ab0 x y) (some (i (Za9 x y),[])) none:=by kernel_rfl
 rw[this,Yf8,Yf7]
def Wc0(p:Pln):List Value:=[.int .i64 p.n.x,.int .i64 p.n.y,.int .i64 p.n.z,.int .i64 p.b]
instance:Inhabited Pln:=⟨⟨⟨0,0,0⟩,0⟩⟩
def cb8(l:List Pln):List Pln:=l.mergeSort λx y=>!ltOf oa8 y x
theorem yc0(l:List Pln):(cb8 l).length=l.length:=List.length_mergeSort l
noncomputable def Ba2:Sum:=hf5 tP 122 73 cb8
theorem hf6:Ce.sortLay_ren.f 6=121:=by kernel_rfl
theorem Qd6:Ce.sortLay_ren.t 24=73:=by kernel_rfl
set_option maxRecDepth 100000 in
theorem Xa5:i7 prog G 121 Ba2:=by
 refine xf4 (enc:=Wc0) (cf:=oa8) ⟨_,Tryz.func121,by kernel_rfl,of_decide_eq_true (by kernel_rfl)⟩ (by decide) (λ_=>rfl) (λr h=>nb2 (n:=4) h) (λx v hv=>?_) yc0
  (λblk off size w=>xf3 Yc7 Yf9 (λ_=>rfl) (λ_=>rfl) _ _ _ _ _) (λblk cap d w hcl hH hb hs=>?_)
 ·simp[Wc0] at hv
  rcases hv with rfl|rfl|rfl|rfl<;>rfl
 ·have eg:∀args w,(callFunc 122 args).run Tryz.prog w=.ok (.enter 122 args) w:=enters_of Tryz.func122 (by kernel_rfl) rfl
  have:=AnyQ.slices_SortFunc Ce.sortLay 4 (by rw[Qd6];exact Tryz.isAgg73) (by rw[Qd6];exact Tryz.sizeOf73) Wc0 (λ_=>rfl) (λx v hv=>by simp[Wc0] at hv;rcases hv with rfl | rfl | rfl | rfl<;>rfl) oa8 Yf6 122 #[] blk 0 cap d w eg (hcl 0 d.size) hH hb hs
  rw[hf6] at this;refine this.mono λe w' ⟨h1,d',n,os,h2,h3,h4⟩=>⟨h1,n,os,?_⟩
  have h5:=sorted_unique_holds Yf6 mg2 d d' h2 h3;rw[h4];show _=sortWorldK Wc0 4 w blk 0 n (d.toList.mergeSort λx y=>!ltOf oa8 y x).toArray os
  rw[<- h5]
end Go.Ev.Ce
namespace Go.Ev.Ce
open Go Go.Ev Go.Ev.L Go.Proofs
set_option maxRecDepth 100000
noncomputable def kc4:List (Nat×Sum):=[]
theorem ec9:i8 prog G kc4:=trivial
structure wa3 where
 (alt ns0:Nat)
 eh0:List (List b8)
noncomputable def Y7{α:Type}(kk:wa3->α)(x:Pln×List Pln):α:=(sl (Nat.beq 0 0&&Nat.ble ((0+(len (n9 (λk=>(tP).row (gL tP (x.1::x.2) k)) (List.range (List.length x.2+1)))))*32) room) (kk ⟨1,(0+(len (n9 (λk=>(tP).row (gL tP (x.1::x.2) k)) (List.range (List.length x.2+1))))),(app [] (n9 (λk=>(tP).row (gL tP (x.1::x.2) k)) (List.range (List.length x.2+1))))⟩) (kk ⟨0,0,[]⟩))
noncomputable def wa4(x:Pln×List Pln):wa3:=Y7 (λr=>r) x
noncomputable def Ka4(r:wa3):DT (b8×List b9):=(.ite (Nat.beq r.alt 1) (.ret (.sl 0 0 r.ns0 0,[⟨73,4,r.eh0,true,false,0⟩])) .fail)
theorem sc5{α β:Type}(F:α->β)(kk:wa3->α)(x:Pln×List Pln):F (Y7 kk x)=Y7 (λr=>F (kk r)) x:=by unfold Y7;(repeat' apply l5 (f:=F))<;>rfl
noncomputable def ub7:Sum:=Z5 (Ye6 tP) (λx=>Ka4 (wa4 x))
theorem kc5:i7 prog G 151 ub7:=Ob1 (bd Kf6 ec9) λx=>w9 (Qjo (b:=Y7 (λr=>(Ka4 r).run) x) (by kernel_rfl) (sc5 (λr=>(Ka4 r).run) (λr=>r) x).symm)
noncomputable def ce4:List (Nat×Sum):=[(55,cb5),(113,qb4),(151,ub7),(150,ua0),(121,Ba2),(154,Ea2)]
theorem Id1:i8 prog G ce4:=⟨hb7,Hb6,kc5,Pa0,Xa5,cb7,trivial⟩
noncomputable def ub8(x:Pln×List Pln):Option (b8×List b9):=let t1:=(Ca5 (rt tP (x.1::x.2)));let t2:=(Ja1 (rt tP (x.1::x.2)));let t3:=(wa4 (hC tP (λk=>(tP).row (gL tP (x.1::x.2) k)),tC tP (List.length x.2) (λk=>(tP).row (gL tP (x.1::x.2) k))));let t4:=(L7 ⟨t3.ns0,t3.eh0,rt tX t2⟩);let t5:=(ba6 ⟨t4.ns0,app (bL tP (cb8 (slR tP t4.eh0 0 t4.ns0))) (f8 t4.eh0 t4.ns0)⟩);(sl (okE tP (x.1::x.2)) (sl (Ca6 (rt tP (x.1::x.2))) (sl (!t1) (some (.v (.slice none 0 0),[])) (sl (okE tP (x.1::x.2)) (sl (Ja2 (rt tP (x.1::x.2))) (sl (okL tP (List.length x.2+1) (λk=>(tP).row (gL tP (x.1::x.2) k))) (sl (Nat.beq t3.alt 1) (sl ((cnE tX t2)&&true) (sl (Nat.beq t4.alt 1) (sl (Bool.and (Nat.ble t4.ns0 room) (Bool.and (Nat.ble t4.ns0 (len t4.eh0)) (okS tP t4.eh0 0 t4.ns0))) (sl (Nat.beq t5.alt 1) (some (.sl 0 0 t5.ns0 0,[⟨73,4,t5.eh0,true,false,0⟩])) none) none) none) none) none) none) none) none)) none) none)
noncomputable def ed2(x:Pln×List Pln):List Pln:=I6 (one (r1L tP)) (ub8 x)
noncomputable def ed3(x:Pln×List Pln):Bool:=okO (one (r1L tP)) (ub8 x)
noncomputable def re5:Sum:=Z5 (Ye6 tP) (λx=>.guard (ed3 x) (.ret ((one (r1L tP)).enc (ed2 x),[])))
theorem ce5:i7 prog G 98 re5:=La4 (bd b98 Id1) (one (r1L tP)) (o:=ub8) λx=>w9 (by kernel_rfl)
noncomputable def onc(X:List Pt)(p:Pln):Nat:=X.countP λx=>rm p x==0
noncomputable def keep(X:List Pt)(p:Pln):Bool:=!decide ((onc X p:Int)<3)
theorem yd0(p:Pln)(X:List Pt)(hX:X.length<=1000000000):ya1 ⟨p.n.x,p.n.y,p.n.z,p.b,X⟩=⟨1,!keep X p,X⟩:=by
 have h:=Mc9 (step:=Aa9 ⟨X,(X.length:Int),X,p.n.x,p.n.y,p.n.z,p.b⟩) (mk:=λj (n:Nat)=>(⟨(n:Int),(j:Int)⟩:X5)) (f:=λn x=>if rm p x==0 then n+1 else n) (fin:=1) tX X (λj n=>n<=j) hX
  (λj n hj hi=>by
   have hW:W ((n:Int)+1)=((n+1:Nat):Int):=by rw[ka5 (by omega) (by omega)];omega
   refine⟨?_,by show (if rm p (gL tX X j)==0 then n+1 else n)<=j+1;split<;>omega⟩
   simp only[Aa9,wa2,Int.toNat_natCast,ae0,hW,n8 hj (show X.length<=4611686018427387904 by omega)]
   rw[btD (g9 hj),bt (d9 hj)];cases rm p (gL tX X j)==0<;>rfl)
  (λn _=>by simp only[Aa9,wa2];rw[bfD (l0 (Qjav _))]) 0 (Qjy _) 0 (Qjl _)
 have h:=h.1;have e:∀(l:List Pt) (n:Nat),l.foldl (λn x=>if rm p x==0 then n+1 else n) n=n+l.countP λx=>rm p x==0:=by
  intro l
  induction l with
  |nil=>intro n;rfl
  |cons x l ih =>
   intro n;rw[List.foldl_cons,ih,List.countP_cons]
   split<;>omega
 rw[Qjaq,e,Qjb] at h;unfold ya1 Ja5 keep onc;simp only[i5,i9];rw[show (⟨0,0⟩:X5)=⟨((0:Nat):Int),((0:Nat):Int)⟩ from rfl,h]
 show Ja4.mk 1 (decide _) X=Ja4.mk 1 (!(!(decide _))) X;rw[Bool.not_not]
theorem xf7(l:List Pln)(X:List Pt)(hl:l.length<=1000000000)(hX:X.length<=1000000000):fa2 ⟨l.length,bL tP l,X⟩=⟨1,if l.any (λp=>!keep X p) then ((l.findIdx (λp=>!keep X p):Nat):Int) else -1,X⟩:=by
 have h:=za2 (step:=N7 ⟨l.length,(l.length:Int),bL tP l⟩) (mk:=λj=>(⟨(j:Int),X⟩:r5)) (c:=λp=>!keep X p) (u:=1) (fin:=2) tP l hl
  (λj hj=>by
   simp only[N7,K4,Int.toNat_natCast,i5,i9,Qc6 hj,xc9 hj,yd0 _ _ hX,n8 hj (show l.length<=4611686018427387904 by omega)]
   rw[btD (g9 hj),bt (d9 hj)]
   rfl)
  (by simp only[N7,K4];rw[bfD (l0 (Qjav _))]) 0 (Qjy _)
 rw[Qjaq] at h;unfold fa2 L5;simp only[i5,i9];rw[show (⟨0,X⟩:r5)=⟨((0:Nat):Int),X⟩ from rfl,h]
 cases ha:l.any λp=>!keep X p with
 |false=>rfl
 |true =>
  have hf:l.findIdx (λp=>!keep X p)<l.length:=by
   rw[Qjal] at ha;obtain⟨p,hp,hc⟩:=ha;exact Qjaa ⟨p,hp,hc⟩
  simp only[if_true,Qjb,Int.toNat_natCast,xc9 hf,yd0 _ _ hX,i5];rfl
theorem Qc9{α:Type}(c:α->Bool):∀l:List α,(l.take (l.findIdx c)).filter (λx=>!c x)=l.take (l.findIdx c)
 |[]=>rfl
 |x::l=>by
  rw[Qjai];cases h:c x with
  |true=>rfl
  |false =>
   simp only[cond_false,List.take_succ_cons,Qjab,h,Bool.not_false,if_true];rw[Qc9 c l]
theorem De5{α:Type}(l:List α)(j:Nat)(h:j<l.length):l.take (j+1)=l.take j++[l[j]]:=by rw[Qjp h]
theorem nd0{α:Type}(t:Ty α){l:List α}{j:Nat}(h:j<l.length):l.take (j+1)=l.take j++[gL t l j]:=by rw[De5 l j h,bb9 t h]
theorem Yc8{α:Type}(t:Ty α){l r:List α}{j:Nat}(h:l.drop j=r.drop j):gL t l j=gL t r j:=by
 have h1:=Pc8 t l j 0;have h2:=Pc8 t r j 0;rw[Nat.add_zero] at h1 h2;rw[<- h1,<- h2,h]
theorem Rc0{α:Type}{l r:List α}{j:Nat}(h:l.drop j=r.drop j)(k:Nat):l.drop (j+k)=r.drop (j+k):=by rw[<- List.drop_drop,<- List.drop_drop,h]
structure Del(l:List Pln)(f:Pln->Bool)(cur:List Pln)(m j:Nat):Prop where
 len:cur.length=l.length
 t:cur.take m=(l.take j).filter f
 d:cur.drop j=l.drop j
 le:m<=j
 lm:m<=l.length
theorem re6 (l : List Pln) (X : List Pt) (hl : l.length ≤ 1000000000) (hX : X.length ≤ 1000000000) (m j : Nat) (cur : List Pln) (hd : Del l (keep X) cur m j) :
  ∃t s,lp (G1 ⟨l.length⟩) ⟨(m:Int),(j:Int),bL tP cur,X⟩=(t,s)/\(t=1/\∃m' cur' k,s=⟨((m':Nat):Int),((k:Nat):Int),bL tP cur',X⟩/\Del l (keep X) cur' m' k/\l.length<=k):=by
 refine S8 (step:=G1 ⟨l.length⟩) (mk:=λj (x:Nat×List Pln)=>(⟨(x.1:Int),(j:Int),bL tP x.2,X⟩:y7)) l.length (λj x=>Del l (keep X) x.2 x.1 j) (λt s=>t=1/\∃m' cur' k,s=⟨((m':Nat):Int),((k:Nat):Int),bL tP cur',X⟩/\Del l (keep X) cur' m' k/\l.length<=k) hl (λj x hj hx=>?_) (λj x hj hx=>?_) j (m,cur) hd
 ·obtain⟨m,cur⟩:=x;obtain⟨h1,h2,h3,h4,h5⟩:=hx
  simp only at h1 h2 h3 h4 h5
  have hjc:j<cur.length:=by omega
  have hmc:m<cur.length:=by omega
  have hg:gL tP cur j=gL tP l j:=Yc8 tP h3;have hWm:W ((m:Int)+1)=((m+1:Nat):Int):=by rw[ka5 (by omega) (by omega)];omega
  have hb:Nat.blt m cur.length=true:=by rw[Qjac];exact hmc
  have hrow:d8 (bL tP cur) m=tP.row (gL tP cur m):=Q8 tP hmc;have sp:∀(v:Pln) (x1 x2 x3 x4:Int),S3 (tP.row v) 0 [i x1,i x2,i x3,i x4]=tP.row ⟨⟨x1,x2,x3⟩,x4⟩:=λ_ _ _ _ _=>rfl
  have rl:∀v:Pln,Nat.ble (0+4) (len (tP.row v))=true:=λ_=>rfl
  simp only[G1,K5,Int.toNat_natCast,i5,i9,Qc6 hjc,xc9 hjc,yd0 _ _ hX,n8 hj (show l.length<=4611686018427387904 by omega),hWm]
  rw[btD (g9 hj),bt (d9 hj)];simp only[Qjb,hrow,H7,hb,sp,Eb9,d9 (show m<l.length by omega),hg]
  have ht:=nd0 tP hj;have hd1:cur.drop (j+1)=l.drop (j+1):=Rc0 h3 1;cases hk:keep X (gL tP l j) with
  |true =>
   refine .nx ⟨(m+1,cur.set m (gL tP l j)),rfl,⟨by rw[Qjd];exact h1,?_,?_,by omega,by show m+1<=l.length;omega⟩⟩
   ·show (cur.set m (gL tP l j)).take (m+1)=_;rw[ht,Qjah,Qjp (by rw[Qjd];exact hmc),Qjar,List.take_set_of_le (Qjl _),h2,Qjab,hk,if_pos rfl,List.filter_nil]
   ·show (cur.set m (gL tP l j)).drop (j+1)=_;rw[List.drop_set_of_lt (by omega),hd1]
  |false =>
   refine .nx ⟨(m,cur),rfl,⟨h1,?_,hd1,by omega,h5⟩⟩
   show cur.take m=_;rw[ht,Qjah,h2,Qjab,hk,if_neg (by simp),List.filter_nil,Qjae]
 ·obtain⟨m,cur⟩:=x;refine⟨1,?_,rfl,m,cur,j,rfl,hx,hj⟩;simp only[G1,K5];rw[bfD (by omega)]
theorem Ke3(l:List Pln)(n:Nat):M2 (bL tP l) n=bL tP (l.take n):=by unfold bL;rw[M3,o8,o8,List.map_take]
theorem ce6(l:List Pln)(n:Nat):f8 (bL tP l) n=bL tP (l.drop n):=by unfold bL;rw[M4,o8,o8,Qjau]
theorem Ke4(n:Nat):List.replicate n [i 0,i 0,i 0,i 0]=bL tP (List.replicate n ⟨⟨0,0,0⟩,0⟩):=by unfold bL;rw[o8,List.map_replicate];rfl
theorem Qd7 (l : List Pln) (X : List Pt) (hl : l.length ≤ 1000000000) (hX : X.length ≤ 1000000000) :
  ∃m r,L7 ⟨l.length,bL tP l,X⟩=⟨1,m,bL tP r,X⟩/\m<=r.length/\r.take m=l.filter (keep X)/\r.length=l.length:=by
 unfold L7 L6;simp only[i5,i9,xf7 l X hl hX];cases ha:l.any λp=>!keep X p with
 |false =>
  refine⟨l.length,l,rfl,Qjl _,?_,rfl⟩;rw[List.take_length]
  symm
  rw[List.filter_eq_self];intro p hp
  have:=List.any_eq_false.1 ha p hp
  simpa using this
 |true =>
  have hf:l.findIdx (λp=>!keep X p)<l.length:=by
   rw[Qjal] at ha;obtain⟨p,hp,hc⟩:=ha;exact Qjaa ⟨p,hp,hc⟩
  have hk:keep X (gL tP l (l.findIdx λp=>!keep X p))=false:=by
   have:=List.findIdx_getElem (xs:=l) (p:=λp=>!keep X p) (w:=hf)
   rw[bb9 tP hf];simpa using this
  have ht:=Qc9 (λp=>!keep X p) l
  simp only[Bool.not_not] at ht;generalize hF:l.findIdx (λp=>!keep X p)=F at *
  have hW:W ((F:Int)+1)=((F+1:Nat):Int):=n8 hf (by omega)
  have hne:((F:Int)==-1)=false:=by rw[beq_eq_false_iff_ne];omega
  obtain⟨t,s,e1,rfl,m,cur,k,e2,e3,e4⟩:=re6 l X hl hX F (F+1) l ⟨rfl,by rw[nd0 tP hf,Qjah,ht,Qjab,hk,if_neg (by simp),List.filter_nil,Qjae],rfl,by omega,by omega⟩
  have hm:m<=l.length:=e3.lm;have hin:inB (m:Int) (l.length+1)=true:=d9 (by omega)
  have hfin:cur.take m=l.filter (keep X):=by rw[e3.t,Qjz e4]
  simp only[if_true,hW,hne,e1,e2,Int.toNat_natCast,hin,Qjb,Nat.sub_zero];refine⟨m,cur.take m++(List.replicate (l.length-m) ⟨⟨0,0,0⟩,0⟩++cur.drop (m+(l.length-m))),?_,?_,?_,?_⟩
  ·rw[Ke3,Ke4,ce6,Da3,Da3];rfl
  ·rw[Qja,Qja,Qjc,Qjas,e3.len];omega
  ·rw[Qjs (by rw[Qjc,e3.len];omega),List.take_take,Nat.min_self,hfin]
  ·rw[Qja,Qja,Qjc,Qjas,Qjh,e3.len];omega
def eqP(x y:Pln):Bool:=x.n.x==y.n.x&&(x.n.y==y.n.y&&(x.n.z==y.n.z&&(x.b==y.b&&true)))
theorem yc1(x y:Pln):eqP x y=true↔x=y:=by
 unfold eqP;simp only[Qjn,Qju,beq_iff_eq];refine⟨λ⟨h1,h2,h3,h4⟩=>?_,λh=>by subst h;exact⟨rfl,rfl,rfl,rfl⟩⟩
 obtain⟨⟨x1,x2,x3⟩,x4⟩:=x;obtain⟨⟨y1,y2,y3⟩,y4⟩:=y
 simp only at h1 h2 h3 h4
 subst h1 h2 h3 h4;rfl
def ddF:Pln->List Pln->List Pln
 |_,[]=>[]
 |a,x::l=>if eqP x a then ddF x l else x::ddF x l
def dd:List Pln->List Pln
 |[]=>[]
 |x::l=>x::ddF x l
theorem Ke5:∀(a:Pln) (l:List Pln),(ddF a l).length<=l.length
 |_,[]=>Qjl _
 |a,x::l=>by
  have:=Ke5 x l
  unfold ddF
  split<;>simp only[List.length_cons]<;>omega
structure Cmp(l:List Pln)(n:Nat)(cur:List Pln)(m j:Nat)(R:List Pln):Prop where
 len:cur.length=l.length
 t:cur.take m++ddF (gL tP l (j-1)) ((l.take n).drop j)=R
 d:cur.drop (j-1)=l.drop (j-1)
 le:m+1<=j
theorem ce7 (l : List Pln) (n o : Nat) (hn : n ≤ l.length) (hl : l.length ≤ 1000000000) (ho : o < n) (m : Nat) (cur : List Pln) (R : List Pln) (hd : Cmp l n cur m (o + 1) R) :
  ∃t s,lp (w8 ⟨n,0+o,n-o⟩) ⟨(m:Int),((1:Nat):Int),bL tP cur⟩=(t,s)/\(t=1/\∃m' cur' k,s=⟨((m':Nat):Int),k,bL tP cur'⟩/\cur'.length=l.length/\cur'.take m'=R/\m'<=n):=by
 refine S8 (step:=w8 ⟨n,0+o,n-o⟩) (mk:=λj (x:Nat×List Pln)=>(⟨(x.1:Int),(j:Int),bL tP x.2⟩:r9)) (n-o) (λj x=>Cmp l n x.2 x.1 (o+j) R/\1<=j/\x.1<=n) (λt s=>t=1/\∃m' cur' k,s=⟨((m':Nat):Int),k,bL tP cur'⟩/\cur'.length=l.length/\cur'.take m'=R/\m'<=n) (by omega) (λj x hj hx=>?_) (λj x hj hx=>?_) 1 (m,cur) ⟨hd,Qjl _,by have:=hd.le;show m<=n;omega⟩
 ·obtain⟨m,cur⟩:=x;obtain⟨⟨h1,h2,h3,h4⟩,hj1,hmn⟩:=hx
  simp only at h1 h2 h3 h4 hmn
  have hoj:o+j<n:=by omega
  have hjc:o+j<cur.length:=by omega
  have hjc':o+(j-1)<cur.length:=by omega
  have hmc:m<cur.length:=by omega
  have hg':gL tP cur (o+(j-1))=gL tP l (o+j-1):=by rw[show o+(j-1)=o+j-1 by omega];exact Yc8 tP h3
  have hd1:cur.drop (o+j)=l.drop (o+j):=by have:=Rc0 h3 1;rw[show o+j-1+1=o+j by omega] at this;exact this
  have hg:gL tP cur (o+j)=gL tP l (o+j):=Yc8 tP hd1;have hWm:W ((m:Int)+1)=((m+1:Nat):Int):=by rw[ka5 (by omega) (by omega)];omega
  have hWj:W ((j:Int)-1)=((j-1:Nat):Int):=by rw[ka5 (by omega) (by omega)];omega
  have hb:Nat.blt m cur.length=true:=by rw[Qjac];exact hmc
  have hrow:d8 (bL tP cur) m=tP.row (gL tP cur m):=Q8 tP hmc;have sp:∀(v:Pln) (x1 x2 x3 x4:Int),S3 (tP.row v) 0 [i x1,i x2,i x3,i x4]=tP.row ⟨⟨x1,x2,x3⟩,x4⟩:=λ_ _ _ _ _=>rfl
  have rl:∀v:Pln,Nat.ble 4 (len (tP.row v))=true:=λ_=>rfl
  simp only[w8,R4,Int.toNat_natCast,Qjb,hWj,Xd3 tP hjc,Xd3 tP hjc',Xd2 tP hjc,Xd2 tP hjc',n8 hj (show n-o<=4611686018427387904 by omega),hWm,hg,hg',hrow,H7,hb,sp,rl,Eb9,d9 (show m<n by omega)]
  rw[btD (g9 hj)];simp only[d9 hj,d9 (show j-1<n-o by omega),f0,Bool.and_self]
  rw[show ((gL tP l (o+j)).n.x==(gL tP l (o+j-1)).n.x&&((gL tP l (o+j)).n.y==(gL tP l (o+j-1)).n.y&&((gL tP l (o+j)).n.z==(gL tP l (o+j-1)).n.z&&((gL tP l (o+j)).b==(gL tP l (o+j-1)).b&&true))))=eqP (gL tP l (o+j)) (gL tP l (o+j-1)) from rfl]
  have hcons:(l.take n).drop (o+j)=gL tP l (o+j)::(l.take n).drop (o+(j+1)):=by
   rw[Qjak (by rw[Qjc];omega),List.getElem_take,bb9 tP (by omega)]
   rfl
  rw[hcons] at h2;have hlast:o+(j+1)-1=o+j:=by omega
  unfold ddF at h2;cases he:eqP (gL tP l (o+j)) (gL tP l (o+j-1)) with
  |true =>
   rw[he] at h2;simp only[if_true] at h2;refine .nx ⟨(m,cur),rfl,⟨⟨h1,?_,?_,by show m+1<=o+(j+1);omega⟩,by omega,hmn⟩⟩
   ·rw[hlast];exact h2
   ·rw[hlast];exact hd1
  |false =>
   rw[he] at h2;simp only[Bool.false_eq_true,if_false] at h2;refine .nx ⟨(m+1,cur.set m (gL tP l (o+j))),rfl,⟨⟨by rw[Qjd];exact h1,?_,?_,by show m+1+1<=o+(j+1);omega⟩,by omega,by show m+1<=n;omega⟩⟩
   ·rw[hlast];show (cur.set m (gL tP l (o+j))).take (m+1)++_=R;rw[Qjp (by rw[Qjd];exact hmc),Qjar,List.take_set_of_le (Qjl _),Qjaj]
    exact h2
   ·rw[hlast];show (cur.set m (gL tP l (o+j))).drop (o+j)=_;rw[List.drop_set_of_lt (by omega),hd1]
 ·obtain⟨m,cur⟩:=x;obtain⟨⟨h1,h2,h3,h4⟩,hj1,hmn⟩:=hx
  simp only at h1 h2 h3 h4 hmn
  refine⟨1,?_,rfl,m,cur,_,rfl,h1,?_,hmn⟩
  ·simp only[w8,R4];rw[bfD (by omega)]
  ·rw[Qjan (by rw[Qjc];omega)] at h2
   unfold ddF at h2;rw[Qjae] at h2;exact h2
theorem yd1 (l : List Pln) (n : Nat) (hn : n ≤ l.length) (hl : l.length ≤ 1000000000) :
  ∃m r,ba6 ⟨n,bL tP l⟩=⟨1,m,bL tP r⟩/\m<=r.length/\r.take m=dd (l.take n):=by
 unfold ba6 S9
 simp only
 by_cases h2:(n:Int)<2
 ·rw[btD h2];refine⟨n,l,rfl,hn,?_⟩
  have:n=0\/n=1:=by omega
  rcases this with rfl|rfl
  ·rfl
  ·cases l with
   |nil=>rfl
   |cons x l=>rfl
 ·rw[bfD h2];have h1n:1<=n:=by omega
  have hI : ∀ j, j < n → 1 ≤ j → l.take j ++ ddF (gL tP l (j - 1)) ((l.take n).drop j) = dd (l.take n) →
    (eqP (gL tP l j) (gL tP l (j-1))=true->Cmp l n l j (j+1) (dd (l.take n)))/\(eqP (gL tP l j) (gL tP l (j-1))=false->l.take (j+1)++ddF (gL tP l (j+1-1)) ((l.take n).drop (j+1))=dd (l.take n)):=by
   intro j hj hj1 hR;have hcons:(l.take n).drop j=gL tP l j::(l.take n).drop (j+1):=by
    rw[Qjak (by rw[Qjc];omega),List.getElem_take,bb9 tP (by omega)]
   rw[hcons] at hR;unfold ddF at hR;constructor
   ·intro he;rw[he] at hR;simp only[if_true] at hR;exact⟨rfl,hR,rfl,Qjl _⟩
   ·intro he;rw[he] at hR;simp only[Bool.false_eq_true,if_false] at hR;rw[nd0 tP (show j<l.length by omega),Qjaj]
    exact hR
  have inner:∀k,k<n->1<=k->Cmp l n l k (k+1) (dd (l.take n))->∃m' cur' k',lp (w8 ⟨n,0+k,n-k⟩) ⟨(k:Int),1,bL tP l⟩=(1,⟨((m':Nat):Int),k',bL tP cur'⟩)/\cur'.length=l.length/\cur'.take m'=dd (l.take n)/\m'<=n:=by
   intro k hk hk1 hc;obtain⟨t,s,e1,rfl,m',cur',k',rfl,e2,e3,e4⟩:=ce7 l n k hn hl hk k l _ hc;exact⟨m',cur',k',e1,e2,e3,e4⟩
  have key:=S8 (step:=U3 ⟨n,bL tP l⟩) (mk:=λj (_:Unit)=>(⟨(j:Int)⟩:A2)) n (λj _=>1<=j/\j<=n/\l.take j++ddF (gL tP l (j-1)) ((l.take n).drop j)=dd (l.take n))
   (λt s=>(t=1/\∃k:Nat,s=⟨(k:Int)⟩/\k<n/\1<=k/\Cmp l n l k (k+1) (dd (l.take n)))\/(t=2/\l.take n=dd (l.take n))) (by omega) (λj x hj hx=>?_) (λj x hj hx=>?_) 1 () ⟨Qjl _,h1n,by
    cases l with
    |nil=>simp only[List.length_nil] at hn;omega
    |cons x l =>
     cases n with
     |zero=>omega
     |succ n=>rfl⟩
  ·obtain⟨t,s,e1,e2⟩:=key;rw[show (⟨1⟩:A2)=⟨((1:Nat):Int)⟩ from rfl,e1]
   rcases e2 with⟨rfl,k,rfl,hk,hk1,hc⟩|⟨rfl,he⟩
   ·obtain⟨m',cur',k',e2,e3,e4,e5⟩:=inner k hk hk1 hc;simp only[Int.toNat_natCast,e2];simp only[Qjb,Nat.sub_zero];refine⟨m',cur'.take m'++(List.replicate (n-m') ⟨⟨0,0,0⟩,0⟩++cur'.drop (m'+(n-m'))),?_,?_,?_⟩
    ·rw[Ke3,Ke4,ce6,Da3,Da3];rfl
    ·rw[Qja,Qjc,e3];omega
    ·rw[Qjs (by rw[Qjc,e3];omega),List.take_take,Nat.min_self,e4]
   ·exact⟨n,l,rfl,hn,he⟩
  ·obtain⟨hj1,hjn,hR⟩:=hx;obtain⟨i1,i2⟩:=hI j hj hj1 hR;have hWj:W ((j:Int)-1)=((j-1:Nat):Int):=by rw[ka5 (by omega) (by omega)];omega
   have hjl:j<l.length:=by omega
   have hjl':j-1<l.length:=by omega
   simp only[U3,R5,Int.toNat_natCast,hWj,Qc6 hjl,Qc6 hjl',xc9 hjl,xc9 hjl',n8 hj (show n<=4611686018427387904 by omega)]
   rw[btD (g9 hj),bt (d9 hj),bt (d9 (show j-1<n by omega)),bt (d9 (show j<n+1 by omega))]
   simp only[f0];rw[show ((gL tP l j).n.x==(gL tP l (j-1)).n.x&&((gL tP l j).n.y==(gL tP l (j-1)).n.y&&((gL tP l j).n.z==(gL tP l (j-1)).n.z&&((gL tP l j).b==(gL tP l (j-1)).b&&true))))=eqP (gL tP l j) (gL tP l (j-1)) from rfl]
   cases he:eqP (gL tP l j) (gL tP l (j-1)) with
   |false=>exact .nx ⟨(),rfl,by omega,by omega,i2 he⟩
   |true =>
    obtain⟨m',cur',k',e2,e3,e4,e5⟩:=inner j hj hj1 (i1 he);rw[e2];simp only[d9 (show m'<n+1 by omega)]
    exact .ex (.inl ⟨rfl,j,rfl,hj,hj1,i1 he⟩)
  ·obtain⟨hj1,hjn,hR⟩:=hx;refine⟨2,?_,.inr ⟨rfl,?_⟩⟩
   ·simp only[U3,R5];rw[bfD (by omega)]
   ·have:j=n:=by omega
    subst this;rw[Qjan (by rw[Qjc];omega)] at hR
    unfold ddF at hR;rw[Qjae] at hR;exact hR
theorem hf7(l:List Pln)(n:Nat)(hn:n<=l.length):slR tP (bL tP l) 0 n=l.take n:=Fc7 tP (by rw[Qjc];omega) λk hk=>by
 rw[Qjb,Q8 tP (by omega)]
 congr 1;simp[gL,Qjv,List.getElem?_take,hk]
theorem hf8(l:List Pln)(n:Nat)(hn:n<=l.length):okS tP (bL tP l) 0 n=true:=eb8 tP (f:=λk=>gL tP l k) λk hk=>by rw[Qjb,Q8 tP (by omega)]
noncomputable def lean(c:List Pln):List Pln:=if ful c then dd (cb8 (c.filter (keep (pts c)))) else []
theorem Ke6(p:Pln)(c:List Pln)(hc:c.length<=1000000):Rd (one (r1L tP)) (ub8 (p,c)) (λr=>r=lean (p::c)):=by
 have hl:(p::c).length<=1000000000:=by simp only[List.length_cons];omega
 have hX:=be9 (p::c);unfold ub8 lean;simp only[i5,j9,i9,Qf9,Rf0,vd6 hl,vd7 hl,vd4 hl,vd5 hl];cases hf:ful (p::c) with
 |false=>exact⟨_,[],rfl,rfl,rfl⟩
 |true =>
  have ec:n9 (λk=>tP.row (gL tP (p::c) k)) (List.range (c.length+1))=bL tP (p::c):=Fa1 tP (p::c)
  have hcl:wa4 (p,c)=⟨1,(p::c).length,bL tP (p::c)⟩:=by
   unfold wa4 Y7;simp only[ec,H7];have r:Nat.ble ((0+(p::c).length)*32) room=true:=S4 (by simp only[List.length_cons];omega)
   rw[r,Qjb];rfl
  obtain⟨m,r,e1,e2,e3,e4⟩:=Qd7 (p::c) (pts (p::c)) hl (by omega)
  have hm:m<=(p::c).length:=by
   have h1:=congrArg List.length e3;have h2:=List.length_filter_le (keep (pts (p::c))) (p::c);rw[Qjc] at h1;omega
  have hs:(cb8 (r.take m)).length=m:=by rw[yc0,Qjc];omega
  have hrows:app (bL tP (cb8 (r.take m))) (f8 (bL tP r) m)=bL tP (cb8 (r.take m)++r.drop m):=by rw[ce6,Da3]
  have hok:okL tP (c.length+1) (λk=>tP.row (gL tP (p::c) k))=true:=eb8 tP (f:=λk=>gL tP (p::c) k) λ_ _=>rfl
  simp only[hcl,e1,hf7 r m e2,hf8 r m e2,hrows,hok];obtain⟨m2,r2,k1,k2,k3⟩:=yd1 (cb8 (r.take m)++r.drop m) m (by rw[Qja,hs];omega) (by rw[Qja,hs,Qjh,e4];omega)
  rw[k1,H7];have q1:Nat.ble m room=true:=by rw[Qjat];unfold room;simp only[List.length_cons] at hm;omega
  have q2:Nat.ble m r.length=true:=by rw[Qjat];exact e2
  rw[q1,q2];have hfin:r2.take m2=dd (cb8 ((p::c).filter (keep (pts (p::c))))):=by
   rw[k3,Qjs (by rw[hs];omega),Qjz (by rw[hs];omega),e3]
  exact De3 k2 rfl hfin
theorem Mf4(p:Pln)(c:List Pln)(hc:c.length<=1000000):ed2 (p,c)=lean (p::c):=(Ke6 p c hc).p
theorem Mf5(p:Pln)(c:List Pln)(hc:c.length<=1000000):ed3 (p,c)=true:=(Ke6 p c hc).g
end Go.Ev.Ce
namespace Go.Ev.Ce
open Go Go.Ev Go.Ev.L Go.Proofs Go.Sort
theorem yd2(l:List Pln):List.Perm (cb8 l) l:=List.mergeSort_perm l _
theorem Te2(x y z:Pln)(h1:(!ltOf oa8 y x)=true)(h2:(!ltOf oa8 z y)=true):(!ltOf oa8 z x)=true:=by
 simp only[Bool.not_eq_true',ob8,decide_eq_false_iff_not] at *
 unfold LtP at *
 omega
theorem Te3(x y:Pln):((!ltOf oa8 y x)||!ltOf oa8 x y)=true:=by
 simp only[Bool.or_eq_true,Bool.not_eq_true',ob8,decide_eq_false_iff_not];unfold LtP;omega
theorem ce8(l:List Pln):(cb8 l).Pairwise λx y=>(!ltOf oa8 y x)=true:=List.pairwise_mergeSort Te2 Te3 l
instance:DecidableEq Pln:=λx y=>decidable_of_iff _ (yc1 x y)
def PC:List Pt:=[⟨0,0,0,1⟩,⟨0,0,1,4⟩,⟨0,1,0,3⟩,⟨1,0,0,2⟩]
theorem De6:ful []=true:=by kernel_rfl
end Go.Ev.Ce
namespace Go.Ev.Ce
open Go Go.Ev Go.Ev.L Go.Proofs
set_option maxRecDepth 100000
noncomputable def yd3:List (Nat×Sum):=[(182,Ub1)]
theorem re7:i8 prog G yd3:=⟨rc5,trivial⟩
structure ub9 where
 d7:List Pln
 (j7 e8 j8 l8:Int)
structure wa5 where
 is5:Int
noncomputable def Rc1(p:ub9)(s:wa5):St:=⟨eL tP p.d7::.unk::.unk::.ptr 0 0 0 0::.unk::i s.is5::ra 43 [],[⟨0,4,[[i p.j7,i p.e8,i p.j8,i p.l8]],true,false,0⟩]⟩
noncomputable def Xa6{α:Type}(k:wa5->α)(e:Nat->α)(z:α)(p:ub9)(s:wa5):α:=let t1:=(ia1 (gL tP p.d7 s.is5.toNat) (⟨(⟨p.j7,p.e8,p.j8⟩:V3),p.l8⟩:Pln));(sl (decide (s.is5<(↑(List.length p.d7):Int))) (sl (inB s.is5 (List.length p.d7)) (sl (qb7 (gL tP p.d7 s.is5.toNat) (⟨(⟨p.j7,p.e8,p.j8⟩:V3),p.l8⟩:Pln)) (sl (decide (t1<0)) (k ⟨W (s.is5+1)⟩) (e 1)) z) z) (e 2))
noncomputable def Sa3(p:ub9)(s:wa5):Stp wa5:=Xa6 .next .exit .fail p s
noncomputable def sc6:Lo ub9 wa5:=⟨En yd3,0,Ef0,[1,1,0,4,4],[0,3,5],.p,[⟨sLq tP::sUq::sUq::sPq 0::sUq::sIq::ru2 43 [],[⟨0,4,true,some [kLq 4]⟩],λa H=>(⟨aLq tP a 0,hIq H 0 0 0,hIq H 0 0 1,hIq H 0 0 2,hIq H 0 0 3⟩,⟨aIq a 5⟩)⟩],Sa3,[(some 0,λp s=>let t1:=(ia1 (gL tP p.d7 s.is5.toNat) (⟨(⟨p.j7,p.e8,p.j8⟩:V3),p.l8⟩:Pln));⟨eL tP p.d7::.unk::.unk::.ptr 0 0 0 0::.unk::i s.is5::.unk::i s.is5::eL tP p.d7::i (↑(List.length p.d7):Int)::b (decide (s.is5<(↑(List.length p.d7):Int)))::b true::eL tP p.d7::i s.is5::.tptr [i (gL tP p.d7 s.is5.toNat).n.x,i (gL tP p.d7 s.is5.toNat).n.y,i (gL tP p.d7 s.is5.toNat).n.z,i (gL tP p.d7 s.is5.toNat).b]::.agg [i (gL tP p.d7 s.is5.toNat).n.x,i (gL tP p.d7 s.is5.toNat).n.y,i (gL tP p.d7 s.is5.toNat).n.z,i (gL tP p.d7 s.is5.toNat).b]::.agg [i p.j7,i p.e8,i p.j8,i p.l8]::i t1::b (decide (t1<0))::b (decide (t1<0))::ra 29 [],[⟨0,4,[[i p.j7,i p.e8,i p.j8,i p.l8]],true,false,0⟩]⟩),(some 0,λp s=>upq (Rc1 p s) [(7,i s.is5),(8,eL tP p.d7),(9,i (↑(List.length p.d7):Int)),(10,b (decide (s.is5<(↑(List.length p.d7):Int)))),(11,b false),(12,u),(13,u),(14,u),(15,u),(16,u),(17,u),(18,u),(19,b false)])],Rc1⟩
theorem ce9:sc6.Ok:=Lo.ok [] (by kernel_rfl) .nil rfl (.cons (λa H=>by kernel_rfl) .nil) λp s=>(.of @Xa6 (λF _ _ _ _ _=>by unfold Xa6;(repeat' apply l5 (f:=F))<;>rfl) (by kernel_rfl))
noncomputable def Zb0(x:List Pln)(y:Pln):Option (b8×List b9):=let t1:=(lp (Sa3 (⟨rt tP x,y.n.x,y.n.y,y.n.z,y.b⟩:ub9)) (⟨0⟩:wa5));let a0:=(n9 (λk=>(λk=>(tP).row (gL tP (rt tP x) k)) (0+k)) (List.range (t1.2.is5.toNat-0)));let a1:=(n9 (λk=>(λk=>(tP).row (gL tP (rt tP x) k)) (t1.2.is5.toNat+k)) (List.range ((List.length (rt tP x))-t1.2.is5.toNat)));let a2:=(inB t1.2.is5 ((List.length (rt tP x))+1));let a3:=(Nat.beq (0+(len a0)) (len (app [] a0))&&Nat.ble (((0+(len a0))+1)*32) room);let a4:=(((0+(len a0))+1)+(len a1));let a5:=(gL tP (rt tP x) t1.2.is5.toNat);let a6:=(Nat.beq 0 0&&Nat.ble ((0+(len a0))*32) room);let w0:Option (b8×List b9):=(sl a2 (sl a6 (sl a3 (sl a2 (sl (Nat.beq ((0+(len a0))+1) (len (app (app [] a0) [[i y.n.x,i y.n.y,i y.n.z,i y.b]]))&&Nat.ble (a4*32) room) (some (.sl 0 0 a4 0,[⟨73,4,app (app (app [] a0) [[i y.n.x,i y.n.y,i y.n.z,i y.b]]) a1,true,false,0⟩])) none) none) none) none) none);let w1:Option (b8×List b9):=(sl (decide (t1.2.is5<(↑(List.length (rt tP x)):Int))) (sl (inB t1.2.is5 (List.length (rt tP x))) (sl ((a5.n.x==y.n.x)&&((a5.n.y==y.n.y)&&((a5.n.z==y.n.z)&&((a5.b==y.b)&&true)))) (some (eL tP (rt tP x),[])) w0) none) w0);(sl ((cnE tP x)&&true) (sl (Nat.beq t1.1 1) w1 (sl (Nat.beq t1.1 2) w1 none)) none)
noncomputable def Db4(x:List Pln)(y:Pln):List Pln:=I6 (one (r1L tP)) (Zb0 x y)
noncomputable def Db5(x:List Pln)(y:Pln):Bool:=okO (one (r1L tP)) (Zb0 x y)
noncomputable def Qd8:Sum:=ga1 (G4 tP) (da1 tP) (λx y=>.guard (Db5 x y) (.ret ((one (r1L tP)).enc (Db4 x y),[])))
theorem De7:i7 prog G 159 Qd8:=La5 (bd ig4 re7) (one (r1L tP)) (o:=Zb0) λx y=>ma5 (.s .p (.s .p (.s (.b (.u sc6.ls)) .p))) [sc6.pr] (by kernel_rfl) (.cons ce9 .nil) (by kernel_rfl)
noncomputable def de0:List (Nat×Sum):=[(100,cb2),(124,xc4),(123,Gc7)]
theorem Id2:i8 prog G de0:=⟨fb5,Gc6,cd9,trivial⟩
noncomputable def vb0(x:List Pln)(y:List Pln):Option (b8×List b9):=let t1:=(ja2 (rt tP x));let t2:=(ja2 (rt tP y));let t3:=(Db1 (slR tP (app (app [] (n9 (λk=>(tP).row (gL tP x k)) (List.range (List.length x)))) (n9 (λk=>(tP).row (gL tP y k)) (List.range (List.length y)))) 0 ((0+(len (n9 (λk=>(tP).row (gL tP x k)) (List.range (List.length x)))))+(len (n9 (λk=>(tP).row (gL tP y k)) (List.range (List.length y)))))));let t4:=(Gb4 (rt tP t3));(sl (okE tP x) (sl (va2 (rt tP x)) (sl (t1 != 0) (some (b true,[])) (sl (okE tP y) (sl (va2 (rt tP y)) (sl (t2 != 0) (some (b true,[])) (sl (Nat.beq 0 0&&Nat.ble ((0+(len (n9 (λk=>(tP).row (gL tP x k)) (List.range (List.length x)))))*32) room) (sl (Nat.beq (0+(len (n9 (λk=>(tP).row (gL tP x k)) (List.range (List.length x))))) (len (app [] (n9 (λk=>(tP).row (gL tP x k)) (List.range (List.length x)))))&&Nat.ble (((0+(len (n9 (λk=>(tP).row (gL tP x k)) (List.range (List.length x)))))+(len (n9 (λk=>(tP).row (gL tP y k)) (List.range (List.length y)))))*32) room) (sl (okS tP (app (app [] (n9 (λk=>(tP).row (gL tP x k)) (List.range (List.length x)))) (n9 (λk=>(tP).row (gL tP y k)) (List.range (List.length y)))) 0 ((0+(len (n9 (λk=>(tP).row (gL tP x k)) (List.range (List.length x)))))+(len (n9 (λk=>(tP).row (gL tP y k)) (List.range (List.length y)))))) (sl (Db2 (slR tP (app (app [] (n9 (λk=>(tP).row (gL tP x k)) (List.range (List.length x)))) (n9 (λk=>(tP).row (gL tP y k)) (List.range (List.length y)))) 0 ((0+(len (n9 (λk=>(tP).row (gL tP x k)) (List.range (List.length x)))))+(len (n9 (λk=>(tP).row (gL tP y k)) (List.range (List.length y))))))) (sl (okE tP t3) (sl (Gb5 (rt tP t3)) (some (b (!t4),[])) none) none) none) none) none) none)) none) none)) none) none)
noncomputable def cb9(x:List Pln)(y:List Pln):Bool:=I6 (one r1B) (vb0 x y)
noncomputable def db0(x:List Pln)(y:List Pln):Bool:=okO (one r1B) (vb0 x y)
noncomputable def sc7:Sum:=ga1 (G4 tP) (G4 tP) (λx y=>.guard (db0 x y) (.ret ((one r1B).enc (cb9 x y),[])))
theorem Rc2:i7 prog G 105 sc7:=La5 (bd fg0 Id2) (one r1B) (o:=vb0) λx y=>w9 (by kernel_rfl)
end Go.Ev.Ce
namespace Go.Ev.L
open Go Go.Ev
noncomputable def Mf6:Cod Unit where
 enc _:=.v (.slice none 0 0)
 dec x:=match x with
  |.v (.slice none 0 0)=>some ()
  |_=>none
 grd _:=true
 ok x a hx _:=by
  split at hx
  ·exact .refl _
  ·cases hx
noncomputable def cE0:Cod (Addr×Nat) where
 enc z:=.v (.slice (some z.1) 0 z.2)
 dec x:=match x with
  |.v (.slice (some a) 0 c)=>some (a,c)
  |_=>none
 grd _:=true
 ok x a hx _:=by
  split at hx
  ·cases hx;exact .refl _
  ·cases hx
section
variable{α:Type}{t:Ty α}{P:Program}{G:Nat->List Value}{f:FuncId}
theorem de1{β:Type}{c:Cod β}{k k':β->DT (b8×List b9)}(h:i7 P G f (Z5 c k))(hk:∀a r,(k' a).run=some r->(k a).run=some r):i7 P G f (Z5 c k'):=h.le λargs blks r hr=>by
 unfold Z5 at hr ⊢
 split at hr
 ·obtain⟨a,h1,hr⟩:=A0 hr;obtain⟨g,hr⟩:=DT.run_guard_some hr;simp only[h1,onO,g];exact hk a r hr
 ·cases hr
theorem Mf7{k:List α->DT (b8×List b9)}(hA:i7 P G f (Z5 (Ye6 t) λz=>k (z.1::z.2)))(hN:i7 P G f (Z5 Mf6 λ_=>k []))(hE:i7 P G f (Z5 cE0 λ_=>k [])):i7 P G f (Z5 (G4 t) k):=by
 intro args blks r out he W ρ F w args' hH hlen hargs hG;unfold Z5 at he
 split at he
 ·rename_i x;obtain⟨a,h1,he⟩:=A0 he;obtain⟨g1,hk⟩:=DT.run_guard_some he;have nilCase:∀v',args'[0]?=some v'->v'=.slice none 0 0->a=[]->Eb3 P f/\Calls P f args'.toArray w λe w'=>∃r',e=.returned r'/\U1 W ρ [] F w r out r' w':=λv' hv e ha=>by
   subst ha;refine hN [.v (.slice none 0 0)] [] r out ?_ W ρ F w args' hH hlen (λi x' y' hx hy=>?_) hG
   ·exact hk
   ·match i with
    |0=>cases hx;rw[hv] at hy;cases hy;rw[e];exact .val (.cell (.v _))
    |i+1=>cases hx
  have emptyCase:∀v' ad c,args'[0]?=some v'->v'=.slice (some ad) 0 c->a=[]->Eb3 P f/\Calls P f args'.toArray w λe w'=>∃r',e=.returned r'/\U1 W ρ [] F w r out r' w':=λv' ad c hv e ha=>by
   subst ha;refine hE [.v (.slice (some ad) 0 c)] [] r out ?_ W ρ F w args' hH hlen (λi x' y' hx hy=>?_) hG
   ·exact hk
   ·match i with
    |0=>cases hx;rw[hv] at hy;cases hy;rw[e];exact .val (.cell (.v _))
    |i+1=>cases hx
  obtain⟨v',hv⟩:∃v',args'[0]?=some v':=by
   cases args' with
   |nil=>simp at hlen
   |cons v' r'=>exact⟨v',rfl⟩
  cases x with
  |tree e n get =>
   have hb:Nat.beq e t.es=true/\a=lsL t n get:=by
    have h1:(Bool.rec none (some (lsL t n get)) (Nat.beq e t.es):Option (List α))=some a:=h1;cases hb:Nat.beq e t.es with
    |false=>rw[hb] at h1;cases h1
    |true =>
     rw[hb] at h1;have h1:some (lsL t n get)=some a:=h1;injection h1 with h1;exact⟨rfl,h1.symm⟩
   cases n with
   |zero =>
    have ha:a=[]:=hb.2;have hm:=Ea8 (hargs 0 _ v' rfl hv);cases hm with
    |tree _ _ _ ad cap cs hs hcap hes hF hw hr=>exact emptyCase _ ad cap hv rfl ha
    |nil=>exact nilCase _ hv rfl ha
   |succ m =>
    have ha:a=hC t get::tC t m get:=hb.2.trans (je4 t m get);subst ha;refine hA [.tree e (m+1) get] [] r out ?_ W ρ F w args' hH hlen hargs hG;have hc:(Ye6 t).dec (.tree e (m+1) get)=some (hC t get,tC t m get):=by
     show (Bool.rec none (some (hC t get,tC t m get)) (Nat.beq e t.es):Option (α×List α))=_;rw[hb.1]
    have hg:(Ye6 t).grd (.tree e (m+1) get)=true:=g1;simp only[Z5,hc,onO,hg];exact hk
  |v q =>
   have hq:=ma4 (hargs 0 _ v' rfl hv);unfold G4 at h1
   simp only at h1
   split at h1
   ·rename_i heq;cases heq
   ·rename_i heq;injection heq with heq;injection h1 with h1;exact nilCase v' hv (hq.trans heq) h1.symm
   ·rename_i ad c heq;injection heq with heq;injection h1 with h1;exact emptyCase v' _ _ hv (hq.trans heq) h1.symm
   ·cases h1
  |_=>cases h1
 ·cases he
end
end Go.Ev.L
namespace Go.Ev.Ce
open Go Go.Ev Go.Ev.L Go.Proofs
set_option maxRecDepth 100000
noncomputable def Jb4:List (Nat×Sum):=[]
theorem zc8:i8 prog G Jb4:=trivial
@[reducible] noncomputable def Pb5:Sum:=Vb9 (En Jb4) Ff2
theorem Ic4:i7 prog G 208 Pb5:=bd lg1 zc8
noncomputable def Jb5:List (Nat×Sum):=[]
theorem zc9:i8 prog G Jb5:=trivial
@[reducible] noncomputable def Pb6:Sum:=Vb9 (En Jb5) Ff1
theorem Ic5:i7 prog G 207 Pb6:=bd lg0 zc9
noncomputable def Zb1:List (Nat×Sum):=[(208,Pb5),(207,Pb6)]
theorem Rc3:i8 prog G Zb1:=⟨Ic4,Ic5,trivial⟩
@[reducible] noncomputable def ic7:Sum:=Vb9 (En Zb1) Ef5
theorem Yc9:i7 prog G 180 ic7:=bd jg8 Rc3
structure I8 where
noncomputable def ka7:List (Nat×Sum):=[]
theorem Pa1:i8 prog G ka7:=trivial
structure A3 where
structure o6 where
noncomputable def ha6(p:A3)(s:o6):St:=⟨.v (.slice none 0 0)::i 0::i 0::.fn 122 []::ra 4 (i 1::ra 44 []),[]⟩
noncomputable def P4{α:Type}(k:o6->α)(e:Nat->α)(z:α)(p:A3)(s:o6):α:=(e 1)
noncomputable def Q7(p:A3)(s:o6):Stp o6:=P4 .next .exit .fail p s
noncomputable def R6:Lo A3 o6:=⟨En ka7,0,Ff0,[1,4,4],[0,1,2,3,8],.p,[⟨.s (.o .nil)::.s (.o (.lit .i64 0))::.s (.o (.lit .i64 0))::.s (.o (.fn 122))::ru2 4 (.s (.o (.lit .i64 1))::ru2 44 []),[],λa H=>(⟨⟩,⟨⟩)⟩],Q7,[(some 0,λp s=>upq (ha6 p s) [(12,i 1),(13,i 0),(14,b false)])],ha6⟩
theorem La6:R6.Ok:=Lo.ok [] (by kernel_rfl) .nil rfl (.cons (λa H=>by kernel_rfl) .nil) λp s=>(.of @P4 (λF _ _ _ _ _=>by unfold P4;(repeat' apply l5 (f:=F))<;>rfl) (by kernel_rfl))
structure I9 where
 alt:Nat
noncomputable def s9{α:Type}(kk:I9->α)(x:I8):α:=let t1:=(lp (Q7 (⟨⟩:A3)) (⟨⟩:o6));(sl (Nat.beq t1.1 1) (kk ⟨1⟩) (kk ⟨0⟩))
noncomputable def J0(x:I8):I9:=s9 (λr=>r) x
noncomputable def T0(x:I8)(r:I9):DT (b8×List b9):=(.ite (Nat.beq r.alt 1) (.ret (.tup [],[])) .fail)
theorem Ua8{α β:Type}(F:α->β)(kk:I9->α)(x:I8):F (s9 kk x)=s9 (λr=>F (kk r)) x:=by unfold s9;(repeat' apply l5 (f:=F))<;>rfl
noncomputable def ma8:Sum:=eb9 ⟨[.s (.o .nil),.s (.o (.lit .i64 0)),.s (.o (.lit .i64 0)),.s (.o (.fn 122))],[],λa H=>(⟨⟩,())⟩ (λx=>T0 x (J0 x))
theorem Sa4:i7 prog G 199 ma8:=Q9 (enc:=λx=>⟨[.v (.slice none 0 0),i 0,i 0,.fn 122 []],[]⟩) (λa H=>by kernel_rfl) (bd kg9 Pa1) λx=>ma5 (.s .p (.b (.u R6.ls))) [R6.pr] (by kernel_rfl) (.cons La6 .nil) (Qjo (b:=s9 (λr=>(T0 x r).run) x) (by kernel_rfl) (Ua8 (λr=>(T0 x r).run) (λr=>r) x).symm)
structure T1 where
noncomputable def ya8:List (Nat×Sum):=[(199,ma8)]
theorem ib7:i8 prog G ya8:=⟨Sa4,trivial⟩
structure G6 where
structure s7 where
noncomputable def db4(p:G6)(s:s7):St:=⟨.v (.slice none 0 0)::i 0::i 0::i 0::.fn 122 []::ra 5 (b true::b true::ra 136 []),[]⟩
noncomputable def L9{α:Type}(k:s7->α)(e:Nat->α)(z:α)(p:G6)(s:s7):α:=let t1:=(J0 ⟨⟩);(sl (Nat.beq t1.alt 1) (e 1) z)
noncomputable def O3(p:G6)(s:s7):Stp s7:=L9 .next .exit .fail p s
noncomputable def ba7:Lo G6 s7:=⟨En ya8,0,Ef4,[1,1,4,4],[0,1,2,3,4,10,11],.p,[⟨.s (.o .nil)::.s (.o (.lit .i64 0))::.s (.o (.lit .i64 0))::.s (.o (.lit .i64 0))::.s (.o (.fn 122))::ru2 5 (.s (.o (.blit true))::.s (.o (.blit true))::ru2 136 []),[],λa H=>(⟨⟩,⟨⟩)⟩],O3,[(none,λp s=>⟨[.tup []],[]⟩)],db4⟩
theorem db5:ba7.Ok:=Lo.ok [] (by kernel_rfl) .nil rfl (.cons (λa H=>by kernel_rfl) .nil) λp s=>(.of @L9 (λF _ _ _ _ _=>by unfold L9;(repeat' apply l5 (f:=F))<;>rfl) (by kernel_rfl))
structure T2 where
 alt:Nat
noncomputable def D2{α:Type}(kk:T2->α)(x:T1):α:=let t1:=(lp (O3 (⟨⟩:G6)) (⟨⟩:s7));(sl (Nat.beq t1.1 1) (kk ⟨1⟩) (kk ⟨0⟩))
noncomputable def T3(x:T1):T2:=D2 (λr=>r) x
noncomputable def ea0(x:T1)(r:T2):DT (b8×List b9):=(.ite (Nat.beq r.alt 1) (.ret (.tup [],[])) .fail)
theorem ob9{α β:Type}(F:α->β)(kk:T2->α)(x:T1):F (D2 kk x)=D2 (λr=>F (kk r)) x:=by unfold D2;(repeat' apply l5 (f:=F))<;>rfl
noncomputable def Ba3:Sum:=eb9 ⟨[.s (.o .nil),.s (.o (.lit .i64 0)),.s (.o (.lit .i64 0)),.s (.o (.lit .i64 0)),.s (.o (.fn 122))],[],λa H=>(⟨⟩,())⟩ (λx=>ea0 x (T3 x))
theorem lb6:i7 prog G 179 Ba3:=Q9 (enc:=λx=>⟨[.v (.slice none 0 0),i 0,i 0,i 0,.fn 122 []],[]⟩) (λa H=>by kernel_rfl) (bd jg7 ib7) λx=>ma5 (.s .p (.s .p (.b (.u ba7.ls)))) [ba7.pr] (by kernel_rfl) (.cons db5 .nil) (Qjo (b:=D2 (λr=>(ea0 x r).run) x) (by kernel_rfl) (ob9 (λr=>(ea0 x r).run) (λr=>r) x).symm)
structure ia5 where
noncomputable def Nb0:List (Nat×Sum):=[(179,Ba3),(180,ic7)]
theorem Jb6:i8 prog G Nb0:=⟨lb6,Yc9,trivial⟩
structure ia6 where
 alt:Nat
noncomputable def O8{α:Type}(kk:ia6->α)(x:ia5):α:=let t1:=(T3 ⟨⟩);(sl (Nat.beq t1.alt 1) (kk ⟨1⟩) (kk ⟨0⟩))
noncomputable def ia7(x:ia5):ia6:=O8 (λr=>r) x
noncomputable def ua1(x:ia5)(r:ia6):DT (b8×List b9):=(.ite (Nat.beq r.alt 1) (.ret (.tup [],[])) .fail)
theorem Vb0{α β:Type}(F:α->β)(kk:ia6->α)(x:ia5):F (O8 kk x)=O8 (λr=>F (kk r)) x:=by unfold O8;(repeat' apply l5 (f:=F))<;>rfl
noncomputable def Xa7:Sum:=eb9 ⟨[.s (.o .nil),.s (.o (.fn 122))],[],λa H=>(⟨⟩,())⟩ (λx=>ua1 x (ia7 x))
theorem Nb1:i7 prog G 121 Xa7:=Q9 (enc:=λx=>⟨[.v (.slice none 0 0),.fn 122 []],[]⟩) (λa H=>by kernel_rfl) (bd gg1 Jb6) λx=>w9 (Qjo (b:=O8 (λr=>(ua1 x r).run) x) (by kernel_rfl) (Vb0 (λr=>(ua1 x r).run) (λr=>r) x).symm)
structure fa5 where
 j6:List Pt
noncomputable def Pa2:List (Nat×Sum):=[]
theorem Bb8:i8 prog G Pa2:=trivial
structure Q4 where
 j6:List Pt
structure C6 where
noncomputable def Ha3(p:Q4)(s:C6):St:=⟨.v (.slice none 0 0)::.fn 152 [.ptr 0 0 0 0]::ra 5 (i 0::i 0::ra 10 []),[⟨0,1,[[eL tX p.j6]],true,false,0⟩]⟩
noncomputable def ka3{α:Type}(k:C6->α)(e:Nat->α)(z:α)(p:Q4)(s:C6):α:=(e 1)
noncomputable def la9(p:Q4)(s:C6):Stp C6:=ka3 .next .exit .fail p s
noncomputable def oa9:Lo Q4 C6:=⟨En Pa2,1,me2,[1,0,1,4,4],[0,1,7,8],.p,[⟨.s (.o .nil)::.fn 152 [.o (.ptr 0 0 0 0)]::ru2 5 (.s (.o (.lit .i64 0))::.s (.o (.lit .i64 0))::ru2 10 []),[⟨0,1,true,some [[.c 4 (nL tX)]]⟩],λa H=>(⟨hLq tX H 0 0 0⟩,⟨⟩)⟩],la9,[(some 0,λp s=>upq (Ha3 p s) [(9,b false)])],Ha3⟩
theorem yb6:oa9.Ok:=Lo.ok [] (by kernel_rfl) .nil rfl (.cons (λa H=>by kernel_rfl) .nil) λp s=>(.of @ka3 (λF _ _ _ _ _=>by unfold ka3;(repeat' apply l5 (f:=F))<;>rfl) (by kernel_rfl))
structure fa6 where
 alt:Nat
 j6:List Pt
noncomputable def L8{α:Type}(kk:fa6->α)(x:fa5):α:=let t1:=(lp (la9 (⟨rt tX x.j6⟩:Q4)) (⟨⟩:C6));(sl ((cnE tX x.j6)&&true) (sl (Nat.beq t1.1 1) (kk ⟨1,rt tX x.j6⟩) (kk ⟨0,[]⟩)) (kk ⟨0,[]⟩))
noncomputable def ua2(x:fa5):fa6:=L8 (λr=>r) x
noncomputable def ra8(x:fa5)(r:fa6):DT (b8×List b9):=(.ite (Nat.beq r.alt 1) (.ret (i (-1),[⟨0,1,[[eL tX r.j6]],true,false,0⟩])) .fail)
theorem Nb2{α β:Type}(F:α->β)(kk:fa6->α)(x:fa5):F (L8 kk x)=L8 (λr=>F (kk r)) x:=by unfold L8;(repeat' apply l5 (f:=F))<;>rfl
noncomputable def Ua4:Sum:=eb9 ⟨[.s (.o .nil),.fn 152 [.o (.ptr 0 0 0 0)]],[⟨0,1,true,some [[.c 4 (nL tX)]]⟩],λa H=>(⟨hLq tX H 0 0 0⟩,())⟩ (λx=>ra8 x (ua2 x))
theorem Jb7:i7 prog G 139 Ua4:=Q9 (enc:=λx=>⟨[.v (.slice none 0 0),.fn 152 [.ptr 0 0 0 0]],[⟨0,1,[[eL tX x.j6]],true,false,0⟩]⟩) (λa H=>by kernel_rfl) (bd uf5 Bb8) λx=>ma5 (.s .p (.s (.s .p (.b (.u oa9.ls))) .p)) [oa9.pr] (by kernel_rfl) (.cons yb6 .nil) (Qjo (b:=L8 (λr=>(ra8 x r).run) x) (by kernel_rfl) (Nb2 (λr=>(ra8 x r).run) (λr=>r) x).symm)
structure ba8 where
 j6:List Pt
noncomputable def Bb9:List (Nat×Sum):=[(139,Ua4)]
theorem yb7:i8 prog G Bb9:=⟨Jb7,trivial⟩
structure ba9 where
 alt:Nat
 j6:List Pt
noncomputable def J2{α:Type}(kk:ba9->α)(x:ba8):α:=let t1:=(ua2 ⟨rt tX x.j6⟩);(sl ((cnE tX x.j6)&&true) (sl (Nat.beq t1.alt 1) (kk ⟨1,t1.j6⟩) (kk ⟨0,[]⟩)) (kk ⟨0,[]⟩))
noncomputable def ca0(x:ba8):ba9:=J2 (λr=>r) x
noncomputable def pa0(x:ba8)(r:ba9):DT (b8×List b9):=(.ite (Nat.beq r.alt 1) (.ret (.v (.slice none 0 0),[⟨0,1,[[eL tX r.j6]],true,false,0⟩])) .fail)
theorem Jb8{α β:Type}(F:α->β)(kk:ba9->α)(x:ba8):F (J2 kk x)=J2 (λr=>F (kk r)) x:=by unfold J2;(repeat' apply l5 (f:=F))<;>rfl
noncomputable def Pa3:Sum:=eb9 ⟨[.s (.o .nil),.fn 152 [.o (.ptr 0 0 0 0)]],[⟨0,1,true,some [[.c 4 (nL tX)]]⟩],λa H=>(⟨hLq tX H 0 0 0⟩,())⟩ (λx=>pa0 x (ca0 x))
theorem Cb0:i7 prog G 150 Pa3:=Q9 (enc:=λx=>⟨[.v (.slice none 0 0),.fn 152 [.ptr 0 0 0 0]],[⟨0,1,[[eL tX x.j6]],true,false,0⟩]⟩) (λa H=>by kernel_rfl) (bd Xf3 yb7) λx=>ma5 .p [] (by kernel_rfl) .nil (Qjo (b:=J2 (λr=>(pa0 x r).run) x) (by kernel_rfl) (Jb8 (λr=>(pa0 x r).run) (λr=>r) x).symm)
structure ka8 where
noncomputable def Vb1:List (Nat×Sum):=[]
theorem Nb3:i8 prog G Vb1:=trivial
structure ka9 where
noncomputable def Y8{α:Type}(kk:ka9->α)(x:ka8):α:=(kk ⟨⟩)
noncomputable def Zb2(x:ka8):ka9:=Y8 (λr=>r) x
noncomputable def ya6(x:ka8)(r:ka9):DT (b8×List b9):=.ret (.v (.slice none 0 0),[])
theorem Zb3{α β:Type}(F:α->β)(kk:ka9->α)(x:ka8):F (Y8 kk x)=Y8 (λr=>F (kk r)) x:=by unfold Y8;(repeat' apply l5 (f:=F))<;>rfl
noncomputable def db1:Sum:=eb9 ⟨[.s (.o .nil)],[],λa H=>(⟨⟩,())⟩ (λx=>ya6 x (Zb2 x))
theorem Vb2:i7 prog G 154 db1:=Q9 (enc:=λx=>⟨[.v (.slice none 0 0)],[]⟩) (λa H=>by kernel_rfl) (bd Xf4 Nb3) λx=>ma5 .p [] (by kernel_rfl) .nil (Qjo (b:=Y8 (λr=>(ya6 x r).run) x) (by kernel_rfl) (Zb3 (λr=>(ya6 x r).run) (λr=>r) x).symm)
noncomputable def fc0:List (Nat×Sum):=[]
theorem Zb4:i8 prog G fc0:=trivial
structure ta2 where
noncomputable def ga5{α:Type}(kk:ta2->α)(x:Unit):α:=(kk ⟨⟩)
noncomputable def kc6(x:Unit):ta2:=ga5 (λr=>r) x
noncomputable def Ea3(r:ta2):DT (b8×List b9):=.ret (.v (.slice none 0 0),[])
theorem kc7{α β:Type}(F:α->β)(kk:ta2->α)(x:Unit):F (ga5 kk x)=ga5 (λr=>F (kk r)) x:=by unfold ga5;(repeat' apply l5 (f:=F))<;>rfl
noncomputable def mb0:Sum:=Z5 Mf6 (λx=>Ea3 (kc6 x))
theorem fc1:i7 prog G 151 mb0:=Ob1 (bd Kf6 Zb4) λx=>w9 (Qjo (b:=ga5 (λr=>(Ea3 r).run) x) (by kernel_rfl) (kc7 (λr=>(Ea3 r).run) (λr=>r) x).symm)
noncomputable def Id3:List (Nat×Sum):=[(55,cb5),(113,qb4),(151,mb0),(150,Pa3),(121,Xa7),(154,db1)]
theorem yd4:i8 prog G Id3:=⟨hb7,Hb6,fc1,Cb0,Nb1,Vb2,trivial⟩
noncomputable def ib8(x:Unit):Option (b8×List b9):=let t1:=(Ca5 []);let t2:=(Ja1 []);let t4:=(ca0 ⟨rt tX t2⟩);let t5:=(ia7 ⟨⟩);(sl (Ca6 []) (sl (!t1) (some (.v (.slice none 0 0),[])) (sl (Ja2 []) (sl ((cnE tX t2)&&true) (sl (Nat.beq t4.alt 1) (sl (Nat.beq t5.alt 1) (some (.v (.slice none 0 0),[])) none) none) none) none)) none)
noncomputable def fc2(x:Unit):List Pln:=I6 (one (r1L tP)) (ib8 x)
noncomputable def fc3(x:Unit):Bool:=okO (one (r1L tP)) (ib8 x)
noncomputable def de2:Sum:=Z5 Mf6 (λx=>.guard (fc3 x) (.ret ((one (r1L tP)).enc (fc2 x),[])))
theorem Id4:i7 prog G 98 de2:=La4 (bd b98 yd4) (one (r1L tP)) (o:=ib8) λx=>w9 (by kernel_rfl)
noncomputable def fc4:List (Nat×Sum):=[]
theorem Zb5:i8 prog G fc4:=trivial
structure ta3 where
noncomputable def ga6{α:Type}(kk:ta3->α)(x:Addr×Nat):α:=(kk ⟨⟩)
noncomputable def kc8(x:Addr×Nat):ta3:=ga6 (λr=>r) x
noncomputable def Ea4(r:ta3):DT (b8×List b9):=.ret (.sl 0 0 0 0,[⟨73,4,[],true,false,0⟩])
theorem kc9{α β:Type}(F:α->β)(kk:ta3->α)(x:Addr×Nat):F (ga6 kk x)=ga6 (λr=>F (kk r)) x:=by unfold ga6;(repeat' apply l5 (f:=F))<;>rfl
noncomputable def mb1:Sum:=Z5 cE0 (λx=>Ea4 (kc8 x))
theorem fc5:i7 prog G 151 mb1:=Ob1 (bd Kf6 Zb5) λx=>w9 (Qjo (b:=ga6 (λr=>(Ea4 r).run) x) (by kernel_rfl) (kc9 (λr=>(Ea4 r).run) (λr=>r) x).symm)
noncomputable def Id5:List (Nat×Sum):=[(55,cb5),(113,qb4),(151,mb1),(150,ua0),(121,Ba2),(154,Ea2)]
theorem yd5:i8 prog G Id5:=⟨hb7,Hb6,fc5,Pa0,Xa5,cb7,trivial⟩
noncomputable def ib9(x:Addr×Nat):Option (b8×List b9):=let t1:=(Ca5 []);let t2:=(Ja1 []);let t4:=(L7 ⟨0,[],rt tX t2⟩);let t5:=(ba6 ⟨t4.ns0,app (bL tP (cb8 (slR tP t4.eh0 0 t4.ns0))) (f8 t4.eh0 t4.ns0)⟩);(sl (Ca6 []) (sl (!t1) (some (.v (.slice none 0 0),[])) (sl (Ja2 []) (sl ((cnE tX t2)&&true) (sl (Nat.beq t4.alt 1) (sl (Bool.and (Nat.ble t4.ns0 room) (Bool.and (Nat.ble t4.ns0 (len t4.eh0)) (okS tP t4.eh0 0 t4.ns0))) (sl (Nat.beq t5.alt 1) (some (.sl 0 0 t5.ns0 0,[⟨73,4,t5.eh0,true,false,0⟩])) none) none) none) none) none)) none)
noncomputable def Rc4(x:Addr×Nat):List Pln:=I6 (one (r1L tP)) (ib9 x)
noncomputable def Rc5(x:Addr×Nat):Bool:=okO (one (r1L tP)) (ib9 x)
noncomputable def de3:Sum:=Z5 cE0 (λx=>.guard (Rc5 x) (.ret ((one (r1L tP)).enc (Rc4 x),[])))
theorem Id6:i7 prog G 98 de3:=La4 (bd b98 yd5) (one (r1L tP)) (o:=ib9) λx=>w9 (by kernel_rfl)
structure hf9 where
 is1:Int
structure if0 where
 ph:Nat
 is7:Int
 o0:List Int
 e8:Int
 ns6:Nat
 eh1:List (List b8)
noncomputable def sc8:List (Nat×Sum):=[(70,Gb7),(157,Oc4),(158,cc5),(159,Qd8)]
theorem de4:i8 prog G sc8:=⟨Pb1,Fd2,pc1,De7,trivial⟩
structure pa1 where
 d7:List Pln
 X8:List Pt
 is5:Int
 da9:List Pln
structure T4 where
 ph:Nat
 (is6 is7:Int)
noncomputable def sc9(p:pa1)(s:T4):St:=⟨eL tP p.d7::.unk::.unk::eL tX p.X8::.v (.slice none 0 0)::i p.is5::i s.is6::i s.is7::ra 38 [],[]⟩
noncomputable def tc0(p:pa1)(s:T4):St:=⟨eL tP p.d7::.unk::.unk::eL tX p.X8::eL tP p.da9::i p.is5::i s.is6::i s.is7::ra 38 [],[]⟩
noncomputable def Id7(p:pa1)(s:T4):St:=(sel (Nat.beq s.ph 1) (tc0 p s) (sc9 p s))
noncomputable def ra9{α:Type}(k:T4->α)(e:Nat->α)(z:α)(p:pa1)(s:T4):α:=let t1:=(ab8 (gL tP p.d7 p.is5.toNat) (gL tX p.X8 s.is7.toNat));(sl (decide (s.is7<(↑(List.length p.X8):Int))) (sl (inB p.is5 (List.length p.d7)) (sl (inB s.is7 (List.length p.X8)) (sl (t1==0) (k ⟨0,W (s.is6+1),W (s.is7+1)⟩) (k ⟨0,s.is6,W (s.is7+1)⟩)) z) z) (e 1))
noncomputable def sa0{α:Type}(k:T4->α)(e:Nat->α)(z:α)(p:pa1)(s:T4):α:=let t1:=(ab8 (gL tP p.d7 p.is5.toNat) (gL tX p.X8 s.is7.toNat));(sl (decide (s.is7<(↑(List.length p.X8):Int))) (sl (inB p.is5 (List.length p.d7)) (sl (inB s.is7 (List.length p.X8)) (sl (t1==0) (k ⟨1,W (s.is6+1),W (s.is7+1)⟩) (k ⟨1,s.is6,W (s.is7+1)⟩)) z) z) (e 2))
noncomputable def Xa8(p:pa1)(s:T4):Stp T4:=(sel (Nat.beq s.ph 1) (sa0 .next .exit .fail p s) (ra9 .next .exit .fail p s))
noncomputable def fc6:Lo pa1 T4:=⟨En sc8,0,cf8,[1,1,1,1,0,1,4,4,1,0,4,1,0,1,4,4],[0,3,4,5,6,7],.p,[⟨sLq tP::sUq::sUq::sLq tX::.s (.o .nil)::sIq::sIq::sIq::ru2 38 [],[],λa H=>(⟨aLq tP a 0,aLq tX a 3,aIq a 5,[]⟩,⟨0,aIq a 6,aIq a 7⟩)⟩,⟨sLq tP::sUq::sUq::sLq tX::sLq tP::sIq::sIq::sIq::ru2 38 [],[],λa H=>(⟨aLq tP a 0,aLq tX a 3,aIq a 5,aLq tP a 4⟩,⟨1,aIq a 6,aIq a 7⟩)⟩],Xa8,[(some 2,λp s=>upq (sc9 p s) [(19,i s.is7),(20,eL tX p.X8),(21,i (↑(List.length p.X8):Int)),(22,b (decide (s.is7<(↑(List.length p.X8):Int))))]),(some 2,λp s=>upq (tc0 p s) [(19,i s.is7),(20,eL tX p.X8),(21,i (↑(List.length p.X8):Int)),(22,b (decide (s.is7<(↑(List.length p.X8):Int))))])],Id7⟩
theorem Id8:fc6.Ok:=Lo.ok [] (by kernel_rfl) .nil rfl (.cons (λa H=>by kernel_rfl) (.cons (λa H=>by kernel_rfl) .nil)) λp s=>(.sel (Nat.beq s.ph 1) (.of @sa0 (λF _ _ _ _ _=>by unfold sa0;(repeat' apply l5 (f:=F))<;>rfl) (by kernel_rfl)) (.of @ra9 (λF _ _ _ _ _=>by unfold ra9;(repeat' apply l5 (f:=F))<;>rfl) (by kernel_rfl)))
structure wa6 where
structure M1 where
 ph:Nat
 d7:List Pln
 X8:List Pt
 is5:Int
 da9:List Pln
noncomputable def tc1(p:wa6)(s:M1):St:=⟨eL tP s.d7::.unk::.unk::eL tX s.X8::.v (.slice none 0 0)::i s.is5::ra 40 [],[]⟩
noncomputable def tc2(p:wa6)(s:M1):St:=⟨eL tP s.d7::.unk::.unk::eL tX s.X8::eL tP s.da9::i s.is5::ra 40 [],[]⟩
noncomputable def Id9(p:wa6)(s:M1):St:=(sel (Nat.beq s.ph 1) (tc2 p s) (tc1 p s))
noncomputable def sa1{α:Type}(k:M1->α)(e:Nat->α)(z:α)(p:wa6)(s:M1):α:=let t1:=(lp (Xa8 (⟨rt tP s.d7,rt tX s.X8,s.is5,[]⟩:pa1)) (⟨0,0,0⟩:T4));let t2:=(Db4 [] (gL tP (rt tP s.d7) s.is5.toNat));let t3:=(Db4 (rt tP []) (gL tP (rt tP s.d7) s.is5.toNat));(sl (decide (s.is5<(↑(List.length s.d7):Int))) (sl ((cnE tP s.d7)&&((cnE tX s.X8)&&true)) (sl (Nat.beq t1.1 1) (sl (decide (t1.2.is6>=3)) (sl (inB s.is5 (List.length (rt tP s.d7))) (sl (Db5 [] (gL tP (rt tP s.d7) s.is5.toNat)) (k ⟨1,rt tP s.d7,rt tX s.X8,W (s.is5+1),t2⟩) z) z) (k ⟨0,rt tP s.d7,rt tX s.X8,W (s.is5+1),[]⟩)) (sl (Nat.beq t1.1 2) (sl (decide (t1.2.is6>=3)) (sl (inB s.is5 (List.length (rt tP s.d7))) (sl (okE tP []) (sl (Db5 (rt tP []) (gL tP (rt tP s.d7) s.is5.toNat)) (k ⟨1,rt tP s.d7,rt tX s.X8,W (s.is5+1),t3⟩) z) z) z) (k ⟨1,rt tP s.d7,rt tX s.X8,W (s.is5+1),[]⟩)) z)) z) (e 1))
noncomputable def sa2{α:Type}(k:M1->α)(e:Nat->α)(z:α)(p:wa6)(s:M1):α:=let t1:=(lp (Xa8 (⟨rt tP s.d7,rt tX s.X8,s.is5,rt tP s.da9⟩:pa1)) (⟨1,0,0⟩:T4));let t2:=(Db4 [] (gL tP (rt tP s.d7) s.is5.toNat));let t3:=(Db4 (rt tP (rt tP s.da9)) (gL tP (rt tP s.d7) s.is5.toNat));(sl (decide (s.is5<(↑(List.length s.d7):Int))) (sl ((cnE tP s.d7)&&((cnE tX s.X8)&&((cnE tP s.da9)&&true))) (sl (Nat.beq t1.1 1) (sl (decide (t1.2.is6>=3)) (sl (inB s.is5 (List.length (rt tP s.d7))) (sl (Db5 [] (gL tP (rt tP s.d7) s.is5.toNat)) (k ⟨1,rt tP s.d7,rt tX s.X8,W (s.is5+1),t2⟩) z) z) (k ⟨0,rt tP s.d7,rt tX s.X8,W (s.is5+1),[]⟩)) (sl (Nat.beq t1.1 2) (sl (decide (t1.2.is6>=3)) (sl (inB s.is5 (List.length (rt tP s.d7))) (sl (okE tP (rt tP s.da9)) (sl (Db5 (rt tP (rt tP s.da9)) (gL tP (rt tP s.d7) s.is5.toNat)) (k ⟨1,rt tP s.d7,rt tX s.X8,W (s.is5+1),t3⟩) z) z) z) (k ⟨1,rt tP s.d7,rt tX s.X8,W (s.is5+1),rt tP s.da9⟩)) z)) z) (e 2))
noncomputable def rb0(p:wa6)(s:M1):Stp M1:=(sel (Nat.beq s.ph 1) (sa2 .next .exit .fail p s) (sa1 .next .exit .fail p s))
noncomputable def fc7:Lo wa6 M1:=⟨En sc8,0,cf8,[1,1,1,1,0,1,4,4],[0,3,4,5],.s .p (.s (.b (.s .p (.s (.s .p (.b (.u fc6.ls))) .p))) .p),[⟨sLq tP::sUq::sUq::sLq tX::.s (.o .nil)::sIq::ru2 40 [],[],λa H=>(⟨⟩,⟨0,aLq tP a 0,aLq tX a 3,aIq a 5,[]⟩)⟩,⟨sLq tP::sUq::sUq::sLq tX::sLq tP::sIq::ru2 40 [],[],λa H=>(⟨⟩,⟨1,aLq tP a 0,aLq tX a 3,aIq a 5,aLq tP a 4⟩)⟩],rb0,[(some 0,λp s=>upq (tc1 p s) [(13,i s.is5),(14,eL tP s.d7),(15,i (↑(List.length s.d7):Int)),(16,b (decide (s.is5<(↑(List.length s.d7):Int))))]),(some 0,λp s=>upq (tc2 p s) [(13,i s.is5),(14,eL tP s.d7),(15,i (↑(List.length s.d7):Int)),(16,b (decide (s.is5<(↑(List.length s.d7):Int))))])],Id9⟩
theorem Jd0:fc7.Ok:=Lo.ok [fc6.pr] (by kernel_rfl) (.cons Id8 .nil) rfl (.cons (λa H=>by kernel_rfl) (.cons (λa H=>by kernel_rfl) .nil)) λp s=>(.sel (Nat.beq s.ph 1) (.of @sa2 (λF _ _ _ _ _=>by unfold sa2;(repeat' apply l5 (f:=F))<;>rfl) (by kernel_rfl)) (.of @sa1 (λF _ _ _ _ _=>by unfold sa1;(repeat' apply l5 (f:=F))<;>rfl) (by kernel_rfl)))
noncomputable def Jb9(x:List Pln):Option (b8×List b9):=let t1:=(Ma9 (rt tP x));let t2:=(Ab3 (rt tP x));let t3:=(lp (rb0 (⟨⟩:wa6)) (⟨0,rt tP x,rt tX t2,0,[]⟩:M1));(sl (okE tP x) (sl (Na0 (rt tP x)) (sl (!t1) (some (.v (.slice none 0 0),[])) (sl (okE tP x) (sl (Ab4 (rt tP x)) (sl ((cnE tP x)&&((cnE tX t2)&&true)) (sl (Nat.beq t3.1 1) (some (.v (.slice none 0 0),[])) (sl (Nat.beq t3.1 2) (some (eL tP t3.2.da9,[])) none)) none) none) none)) none) none)
noncomputable def ha0(x:List Pln):List Pln:=I6 (one (r1L tP)) (Jb9 x)
noncomputable def ma0(x:List Pln):Bool:=okO (one (r1L tP)) (Jb9 x)
noncomputable def Kb0:Sum:=Z5 (G4 tP) (λx=>.guard (ma0 x) (.ret ((one (r1L tP)).enc (ha0 x),[])))
theorem Pb7:i7 prog G 101 Kb0:=La4 (bd eg7 de4) (one (r1L tP)) (o:=Jb9) λx=>ma5 (.s .p (.s .p (.s .p (.s .p (.s (.s .p (.b (.u fc7.ls))) .p))))) [fc7.pr] (by kernel_rfl) (.cons Jd0 .nil) (by kernel_rfl)
theorem xf8(p q:Pln):xa9 p q=some (i (oa8 p q),[]):=by
 have key:∃t s,lp (O7 ⟨p.n.x,p.n.y,p.n.z,p.b,q.n.x,q.n.y,q.n.z,q.b⟩) ⟨0⟩=(t,s)/\((t=1/\oa8 p q=-1)\/(t=2/\oa8 p q=1)\/(t=3/\oa8 p q=0)):=by
  refine S8 (step:=O7 ⟨p.n.x,p.n.y,p.n.z,p.b,q.n.x,q.n.y,q.n.z,q.b⟩) (mk:=λj (_:Unit)=>(⟨(j:Int)⟩:X4)) 4
   (λj _=>(1<=j->p.n.x=q.n.x)/\(2<=j->p.n.y=q.n.y)/\(3<=j->p.n.z=q.n.z)/\(4<=j->p.b=q.b))
   (λt s=>(t=1/\oa8 p q=-1)\/(t=2/\oa8 p q=1)\/(t=3/\oa8 p q=0)) (by omega) (λj x hj hI=>?_) (λj x hj hI=>?_) 0 () ⟨by omega,by omega,by omega,by omega⟩
  ·have hn:=n8 hj (show 4<=4611686018427387904 by omega)
   simp only[O7,ba3,Int.toNat_natCast,hn];have hlt:(j:Int)<4:=by omega
   have hin:=d9 hj;have g:∀x1 x2 x3 x4:Int,((Nat.ble ((0+(j*1))+1) 4)&&(Y1 [CK.int .i64] (f8 [i x1,i x2,i x3,i x4] (0+(j*1)))))=true:=by
    intro x1 x2 x3 x4
    match j,hj with
    |0,_=>rfl
    |1,_=>rfl
    |2,_=>rfl
    |3,_=>rfl
   rw[btD hlt];simp only[hin,g,f0];obtain⟨i1,i2,i3,i4⟩:=hI
   match j,hj with
   |0,_ =>
    show Nx (sl (decide (p.n.x<q.n.x)) _ (sl (decide (p.n.x>q.n.x)) _ _)) _ _;refine Nx.sl (λh=>.ex ?_) λh=>Nx.sl (λh'=>.ex ?_) λh'=>.nx ⟨(),rfl,?_⟩<;>simp only[decide_eq_true_eq,decide_eq_false_iff_not] at h
    ·left;exact⟨rfl,by simp[oa8,Jb3,h]⟩
    ·right;left;simp only[decide_eq_true_eq] at h';exact⟨rfl,by simp[oa8,Jb3,h,h']⟩
    ·simp only[decide_eq_false_iff_not] at h';exact⟨by omega,by omega,by omega,by omega⟩
   |1,_ =>
    have j1:=i1 (by omega)
    show Nx (sl (decide (p.n.y<q.n.y)) _ (sl (decide (p.n.y>q.n.y)) _ _)) _ _;refine Nx.sl (λh=>.ex ?_) λh=>Nx.sl (λh'=>.ex ?_) λh'=>.nx ⟨(),rfl,?_⟩<;>simp only[decide_eq_true_eq,decide_eq_false_iff_not] at h
    ·left;exact⟨rfl,by simp[oa8,Jb3,h,j1]⟩
    ·right;left;simp only[decide_eq_true_eq] at h';exact⟨rfl,by simp[oa8,Jb3,h,h',j1]⟩
    ·simp only[decide_eq_false_iff_not] at h';exact⟨λ_=>j1,by omega,by omega,by omega⟩
   |2,_ =>
    have j1:=i1 (by omega);have j2:=i2 (by omega)
    show Nx (sl (decide (p.n.z<q.n.z)) _ (sl (decide (p.n.z>q.n.z)) _ _)) _ _;refine Nx.sl (λh=>.ex ?_) λh=>Nx.sl (λh'=>.ex ?_) λh'=>.nx ⟨(),rfl,?_⟩<;>simp only[decide_eq_true_eq,decide_eq_false_iff_not] at h
    ·left;exact⟨rfl,by simp[oa8,Jb3,h,j1,j2]⟩
    ·right;left;simp only[decide_eq_true_eq] at h';exact⟨rfl,by simp[oa8,Jb3,h,h',j1,j2]⟩
    ·simp only[decide_eq_false_iff_not] at h';exact⟨λ_=>j1,λ_=>j2,by omega,by omega⟩
   |3,_ =>
    have j1:=i1 (by omega);have j2:=i2 (by omega);have j3:=i3 (by omega)
    show Nx (sl (decide (p.b<q.b)) _ (sl (decide (p.b>q.b)) _ _)) _ _;refine Nx.sl (λh=>.ex ?_) λh=>Nx.sl (λh'=>.ex ?_) λh'=>.nx ⟨(),rfl,?_⟩<;>simp only[decide_eq_true_eq,decide_eq_false_iff_not] at h
    ·left;exact⟨rfl,by simp[oa8,Jb3,h,j1,j2,j3]⟩
    ·right;left;simp only[decide_eq_true_eq] at h';exact⟨rfl,by simp[oa8,Jb3,h,h',j1,j2,j3]⟩
    ·simp only[decide_eq_false_iff_not] at h';exact⟨λ_=>j1,λ_=>j2,λ_=>j3,by omega⟩
  ·simp only[O7,ba3];rw[bfD (by omega)]
   obtain⟨i1,i2,i3,i4⟩:=hI;have j1:=i1 (by omega);have j2:=i2 (by omega);have j3:=i3 (by omega);have j4:=i4 (by omega)
   exact⟨_,rfl,.inr (.inr ⟨rfl,by simp[oa8,Jb3,j1,j2,j3,j4]⟩)⟩
 obtain⟨t,s,h1,h2⟩:=key;unfold xa9
 simp only
 rw[h1]
 rcases h2 with⟨rfl,e⟩|⟨rfl,e⟩|⟨rfl,e⟩<;>rw[e]<;>rfl
theorem if1(p q:Pln):ia1 p q=oa8 p q:=by unfold ia1;rw[xf8];rfl
def atP(x:List Pln)(y:Pln):Nat:=x.findIdx λp=>!decide (oa8 p y<0)
noncomputable def ins(x:List Pln)(y:Pln):List Pln:=if (atP x y<x.length/\eqP (gL tP x (atP x y)) y=true) then x else Ib8 x y (atP x y)
theorem yd6(x:List Pln)(y:Pln)(hx:x.length<=1000000):Rd (one (r1L tP)) (Zb0 x y) (λr=>r=ins x y):=by
 have h:=za2 (step:=Sa3 ⟨x,y.n.x,y.n.y,y.n.z,y.b⟩) (mk:=λj=>(⟨(j:Int)⟩:wa5)) (c:=λp=>!decide (oa8 p y<0)) (u:=1) (fin:=2) tP x (by omega)
  (λj hj=>by
   simp only[Sa3,Xa6,Int.toNat_natCast,De1,if1,n8 hj (show x.length<=4611686018427387904 by omega)]
   rw[btD (g9 hj),bt (d9 hj),f0];show sl (decide (oa8 (gL tP x j) y<0)) _ _=_;cases decide (oa8 (gL tP x j) y<0)<;>rfl)
  (by simp only[Sa3,Xa6];rw[bfD (l0 (Qjav _))]) 0 (Qjy _)
 rw[Qjaq] at h;have key:∃t,lp (Sa3 ⟨x,y.n.x,y.n.y,y.n.z,y.b⟩) ⟨0⟩=(t,⟨((atP x y:Nat):Int)⟩)/\(t=1\/t=2):=by
  rw[show (⟨0⟩:wa5)=⟨((0:Nat):Int)⟩ from rfl,h]
  split
  ·exact⟨1,by rw[Qjb];rfl,.inl rfl⟩
  ·rename_i hn;refine⟨2,?_,.inr rfl⟩
   have:atP x y=x.length:=by
    unfold atP;rw[List.findIdx_eq_length];intro p hp;cases hb:(!decide (oa8 p y<0)) with
    |false=>rfl
    |true=>exact absurd (Qjal.2 ⟨p,hp,hb⟩) hn
   rw[this]
 obtain⟨t,h1,h2⟩:=key;have h3:atP x y<=x.length:=List.findIdx_le_length;have hdef:ins x y=if (atP x y<x.length/\eqP (gL tP x (atP x y)) y=true) then x else Ib8 x y (atP x y):=rfl
 generalize atP x y=n at *
 have hlo:inB (n:Int) (x.length+1)=true:=d9 (by omega)
 have hd:(bL tP (x.take n)).length=n:=by rw[<- o4,H7,Qjc];omega
 have hlen:(Ib8 x y n).length=x.length+1:=by unfold Ib8;simp only[Qja,List.length_cons,Qjc,Qjh];omega
 have lt:len (bL tP (x.take n))=n:=by rw[o4];exact hd
 have ld:len (bL tP (x.drop n))=x.length-n:=by rw[H7,Qjh]
 have b1:(Nat.beq 1 1&&Nat.ble ((1+(x.length-n))*32) room)=true:=by rw[S4 (by omega)];rfl
 have b2:(Nat.beq 0 0&&Nat.ble ((0+n)*32) room)=true:=by rw[S4 (by omega)];rfl
 have e0:app [] (bL tP (x.take n))=bL tP (x.take n):=rfl;have b3:(Nat.beq (0+n) n&&Nat.ble (((0+n)+1)*32) room)=true:=by rw[S4 (by omega),Qjb,Qjg];rfl
 have l3:len (bL tP (x.take n++[y]))=n+1:=by rw[H7,Qja,Qjc];simp only[List.length_singleton];omega
 have b4:(Nat.beq ((0+n)+1) (n+1)&&Nat.ble ((((0+n)+1)+(x.length-n))*32) room)=true:=by rw[S4 (by omega),Qjb,Qjg];rfl
 have z0:∀{k:Nat},Nat.beq k 0=true->k=0:=λ{k} h=>Qjt h
 have fin:ins x y=Ib8 x y n->∀m r,m=x.length+1->r=bL tP (Ib8 x y n)->Rd (one (r1L tP)) (some (.sl 0 0 m 0,[⟨73,4,r,true,false,0⟩])) (λr=>r=ins x y) :=
  λhq m r hm hr=>Ib9 (by rw[hlen];exact hm) hr hq.symm
 have tail:ins x y=Ib8 x y n->Rd (one (r1L tP)) (some (.sl 0 0 (((0+n)+1)+(x.length-n)) 0,[⟨73,4,app (bL tP (x.take n++[y])) (bL tP (x.drop n)),true,false,0⟩])) (λr=>r=ins x y):=λhq=>by
  refine fin hq _ _ (by omega) ?_
  rw[Da3];unfold Ib8;rw[Qjaj];rfl
 unfold Zb0;simp only[i5,i9];rw[h1];simp only[Int.toNat_natCast,Ic2 x n h3,Ic3,lt,ld,b1,b2,e0,b3,Ib7,l3,b4,hlo,f0];have main:Rd (one (r1L tP)) (sl (decide ((n:Int)<(x.length:Int))) (sl (inB (n:Int) x.length) (sl (((gL tP x n).n.x==y.n.x)&&(((gL tP x n).n.y==y.n.y)&&(((gL tP x n).n.z==y.n.z)&&(((gL tP x n).b==y.b)&&true)))) (some (eL tP x,[])) (some (.sl 0 0 (((0+n)+1)+(x.length-n)) 0,[⟨73,4,app (bL tP (x.take n++[y])) (bL tP (x.drop n)),true,false,0⟩]))) none) (some (.sl 0 0 (((0+n)+1)+(x.length-n)) 0,[⟨73,4,app (bL tP (x.take n++[y])) (bL tP (x.drop n)),true,false,0⟩]))) (λr=>r=ins x y):=by
  by_cases hn:n<x.length
  ·rw[btD (g9 hn),bt (d9 hn)];exact Rd.sl (λq=>⟨_,x,rfl,Cc0 tP x,by rw[hdef,if_pos ⟨hn,q⟩]⟩) λq=>tail (by
    rw[hdef,if_neg λh=>?_]
    have h:=h.2;rw[show eqP (gL tP x n) y=false from q] at h
    cases h)
  ·rw[bfD (l0 hn)];exact tail (by rw[hdef,if_neg λh=>hn h.1])
 rcases h2 with rfl|rfl
 ·exact main
 ·exact main
def db2(l:List Pln):Prop:=l.Pairwise LtP
theorem Zc0{x y z:Pln}(h1:LtP x y)(h2:LtP y z):LtP x z:=by unfold LtP at *;omega
theorem nd1(x:Pln):¬ LtP x x:=by unfold LtP;omega
theorem Ke7(x y:Pln):LtP x y\/x=y\/LtP y x:=by
 by_cases h1:LtP x y
 ·exact .inl h1
 ·by_cases h2:LtP y x
  ·exact .inr (.inr h2)
  ·refine .inr (.inl ?_);unfold LtP at h1 h2;have e1:x.n.x=y.n.x:=by omega
   have e2:x.n.y=y.n.y:=by omega
   have e3:x.n.z=y.n.z:=by omega
   have e4:x.b=y.b:=by omega
   cases x with | mk n b=>cases y with | mk m c=>cases n;cases m;simp_all
theorem Qd9:∀{l r:List Pln},db2 l->db2 r->(∀p,p∈l↔p∈r)->l=r
 |[],[],_,_,_=>rfl
 |[],b::r,_,_,h=>by have:=(h b).2 Qji;cases this
 |a::l,[],_,_,h=>by have:=(h a).1 Qji;cases this
 |a::l,b::r,hl,hr,h=>by
  obtain⟨hl1,hl2⟩:=Qjq.1 hl;obtain⟨hr1,hr2⟩:=Qjq.1 hr;have hab:a=b:=by
   rcases Qje.1 ((h a).1 Qji) with e|h1
   ·exact e
   ·rcases Qje.1 ((h b).2 Qji) with e|h2
    ·exact e.symm
    ·exact absurd (Zc0 (hr1 a h1) (hl1 b h2)) (nd1 b)
  subst hab;rw[Qd9 hl2 hr2 λp=>?_]
  constructor
  ·intro hp
   rcases Qje.1 ((h p).1 (Qjf _ hp)) with e|h1
   ·subst e;exact absurd (hl1 p hp) (nd1 p)
   ·exact h1
  ·intro hp
   rcases Qje.1 ((h p).2 (Qjf _ hp)) with e|h1
   ·subst e;exact absurd (hr1 p hp) (nd1 p)
   ·exact h1
def vb1:List Pln->Pln->List Pln
 |[],y=>[y]
 |a::l,y=>if oa8 a y<0 then a::vb1 l y else if eqP a y then a::l else y::a::l
theorem De8(y:Pln):∀x,ins x y=vb1 x y
 |[]=>rfl
 |a::l=>by
  have ih:=De8 y l;unfold vb1;by_cases h:oa8 a y<0
  ·rw[if_pos h,<- ih];have e:atP (a::l) y=atP l y+1:=by unfold atP;rw[Qjai];simp[h]
   unfold ins;rw[e];have e2:gL tP (a::l) (atP l y+1)=gL tP l (atP l y):=rfl;rw[e2];simp only[List.length_cons,Nat.add_lt_add_iff_right];split
   ·rfl
   ·rfl
  ·rw[if_neg h];have e:atP (a::l) y=0:=by unfold atP;rw[Qjai];simp[h]
   unfold ins;rw[e];have e2:gL tP (a::l) 0=a:=rfl;rw[e2];simp only[List.length_cons,Nat.zero_lt_succ,true_and];split
   ·rfl
   ·rfl
theorem Kb1(y p:Pln):∀x,p∈vb1 x y↔p=y\/p∈x
 |[]=>by simp[vb1]
 |a::l=>by
  unfold vb1;have ih:=Kb1 y p l;split
  ·simp only[Qje,ih];constructor
   ·rintro (h|h|h)
    ·exact .inr (.inl h)
    ·exact .inl h
    ·exact .inr (.inr h)
   ·rintro (h|h|h)
    ·exact .inr (.inl h)
    ·exact .inl h
    ·exact .inr (.inr h)
  ·split
   ·rename_i h;rw[yc1] at h;subst h;simp only[Qje];constructor
    ·exact λh=>.inr h
    ·rintro (h|h)
     ·exact .inl h
     ·exact h
   ·simp only[Qje]
theorem tc3(y:Pln):∀{x},db2 x->db2 (vb1 x y)
 |[],_=>List.pairwise_singleton _ _
 |a::l,h=>by
  obtain⟨h1,h2⟩:=Qjq.1 h;unfold vb1;split
  ·rename_i hc;rw[ce3] at hc;refine Qjq.2 ⟨λp hp=>?_,tc3 y h2⟩
   rcases (Kb1 y p l).1 hp with e|hp
   ·subst e;exact hc
   ·exact h1 p hp
  ·rename_i hc;rw[ce3] at hc;split
   ·exact h
   ·rename_i hne;have hlt:LtP y a:=by
     rcases Ke7 y a with h|h|h
     ·exact h
     ·exact absurd ((yc1 _ _).2 h.symm) hne
     ·exact absurd h hc
    refine Qjq.2 ⟨λp hp=>?_,h⟩
    rcases Qje.1 hp with e|hp
    ·subst e;exact hlt
    ·exact Zc0 hlt (h1 p hp)
theorem Rc6{σ:Type}{step:σ->Stp σ}{s:σ}{t:Nat}(h:step s=.exit t):lp step s=(t,s):=by rw[Ye2];exact qd9 h
theorem Rd0:cb8 []=[]:=Qjaf (yc0 [])
theorem re8:lean []=[]:=by
 unfold lean;rw[De6,if_pos rfl,List.filter_nil,Rd0];rfl
theorem mg3(X:List Pt):ca0 ⟨X⟩=⟨1,X⟩:=by
 unfold ca0 J2 ua2 L8;simp only[i5,i9];rw[Rc6 (step:=la9 ⟨X⟩) (s:=⟨⟩) (t:=1) rfl];rfl
theorem Zf0:ia7 ⟨⟩=⟨1⟩:=by
 have h1:J0 ⟨⟩=⟨1⟩:=by
  unfold J0 s9
  simp only
  rw[Rc6 (step:=Q7 ⟨⟩) (s:=⟨⟩) (t:=1) rfl];rfl
 have h2:T3 ⟨⟩=⟨1⟩:=by
  unfold T3 D2
  simp only
  rw[Rc6 (step:=O3 ⟨⟩) (s:=⟨⟩) (t:=1) (by
   unfold O3 L9;simp only[h1]
   rfl)]
  rfl
 unfold ia7 O8;simp only[h2];rfl
theorem re9(x:Unit):ib8 x=some (.v (.slice none 0 0),[]):=by
 have hn:([]:List Pln).length<=1000000000:=by simp
 unfold ib8;simp only[i5,i9,vd6 hn,vd7 hn,vd4 hn,vd5 hn,De6,mg3,Zf0];rfl
theorem se0(x:Addr×Nat):Rd (one (r1L tP)) (ib9 x) (λr=>r=[]):=by
 have hn:([]:List Pln).length<=1000000000:=by simp
 have hX:=be9 [];obtain⟨m,r,e1,e2,e3,e4⟩:=Qd7 [] (pts []) hn (by omega)
 have hr:r=[]:=Qjaf (by simpa using e4)
 subst hr;have hm:m=0:=by simpa using e2
 subst hm;obtain⟨m2,r2,k1,k2,k3⟩:=yd1 [] 0 (by simp) hn
 have e1:L7 ⟨0,[],pts []⟩=_:=e1;unfold ib9;simp only[i5,i9,vd6 hn,vd7 hn,vd4 hn,vd5 hn,De6,e1];have hs:app (bL tP (cb8 (slR tP (bL tP []) 0 0))) (f8 (bL tP []) 0)=bL tP []:=by
  rw[show slR tP (bL tP []) 0 0=[] from rfl,Rd0];rfl
 rw[hs,k1];have hfin:r2.take m2=[]:=by rw[k3];rfl
 exact De3 (P:=λr=>r=[]) k2 rfl hfin
noncomputable def T5(l:List Pln):List Pln:=lean l
noncomputable def s8(l:List Pln):Bool:=decide (l.length<=1000000)
noncomputable def fc8:Sum:=Z5 (G4 tP) λl=>.guard (s8 l) (.ret ((one (r1L tP)).enc (T5 l),[]))
theorem Cc9:i7 prog G 98 fc8:=by
 refine Mf7 (de1 ce5 λa r hr=>?_) (de1 Id4 λa r hr=>?_) (de1 Id6 λa r hr=>?_)
 ·obtain⟨p,c⟩:=a;obtain⟨hg,hr⟩:=DT.run_guard_some hr;have hl:c.length<=1000000:=by
   have:=of_decide_eq_true hg
   simp only[List.length_cons] at this;omega
  rw[Mf4 p c hl,Mf5 p c hl];exact hr
 ·obtain⟨hg,hr⟩:=DT.run_guard_some hr;have e:fc2 a=lean []:=by unfold fc2;rw[re9,re8];exact Ja3 _ rfl
  have e2:fc3 a=true:=by unfold fc3;rw[re9];exact Wa9 (r:=[]) _ rfl
  rw[e,e2];exact hr
 ·obtain⟨hg,hr⟩:=DT.run_guard_some hr;have e:Rc4 a=lean []:=by rw[re8];exact (se0 a).p
  rw[e,show Rc5 a=true from (se0 a).g]
  exact hr
theorem xf9(l:List Pln){n:Nat}(h:n=l.length):okS tP (bL tP l) 0 n=true:=by subst h;exact Sb2 tP l
theorem yf0(l:List Pln){n:Nat}(h:n=l.length):slR tP (bL tP l) 0 n=l:=by subst h;exact Sb1 tP l
theorem Rd1{a c:List Pln}(ha:a.length<=100000000)(hc:c.length<=100000000):vb0 a c=some (b (apart a c),[]):=by
 have ha':a.length<=1000000000:=by omega
 have hc':c.length<=1000000000:=by omega
 unfold vb0 apart;simp only[Fa1,i5,j9,Hb7 _ ha',Yb2 _ ha',Hb7 _ hc',Yb2 _ hc',f0];have hz:∀l:List Pln,(chk l != 0)=!(chk l==0):=λ_=>rfl
 rw[hz,hz];cases h1:chk a==0 with
 |false=>rfl
 |true =>
  cases h2:chk c==0 with
  |false=>rfl
  |true =>
   obtain⟨q1,q2⟩:=re2 h1 h2;have e1:app [] (bL tP a)=bL tP a:=rfl;have e1':app [] (bL tP c)=bL tP c:=rfl;have e2:app (bL tP a) (bL tP c)=bL tP (a++c):=Da3 tP a c;have n1:0+len (bL tP a)=a.length:=by rw[H7];omega
   have n2:0+len (bL tP c)=c.length:=by rw[H7];omega
   have n3:a.length+len (bL tP c)=(a++c).length:=by rw[H7,Qja]
   have hl:(a++c).length<=1000000000:=by rw[Qja];omega
   have hn:([]:List Pln).length<=1000000000:=by simp
   simp only[Bool.not_true,p7,Qjn,Bool.true_and,Bool.false_or,Ie9,n1,n2,n3,e1,e1',e2,Sb2,Sb1,xf9 _ rfl,yf0 _ rfl,Pd6 _ hl,Pd7 _ hl,Pd6 _ ha',Pd7 _ ha',Pd6 _ hc',Pd7 _ hc',Pd6 _ hn,Pd7 _ hn,f0];rw[show Nat.ble (a.length*32) room=true from S4 (by omega),show Nat.ble ((a++c).length*32) room=true from S4 (by omega),show Nat.beq a.length (len (bL tP a))=true by rw[H7,Qjg],ff5 _ q1 q2,ff6 _ q1 q2]
   rfl
theorem se1{a c:List Pln}(ha:a.length<=100000000)(hc:c.length<=100000000):cb9 a c=apart a c:=by unfold cb9;rw[Rd1 ha hc];rfl
theorem se2{a c:List Pln}(ha:a.length<=100000000)(hc:c.length<=100000000):db0 a c=true:=by unfold db0;rw[Rd1 ha hc];rfl
end Go.Ev.Ce
namespace Go.Ev.Ce
def rmZ(p:Pln)(x:Pt):Int:=p.b*x.pw-(p.n.x*x.px+p.n.y*x.py+p.n.z*x.pz)
structure Inr(r:List Pln)(x:Pt):Prop where
 w:0<x.pw
 h:∀p∈r,0<=rmZ p x
def Ca2(p:Pln):Pln:=⟨⟨-p.n.x,-p.n.y,-p.n.z⟩,-p.b⟩
theorem se3(p:Pln)(x:Pt):rmZ (Ca2 p) x=-rmZ p x:=by unfold rmZ Ca2;grind
structure Cn(r:List Pln)(x:Pt):Prop extends Inr r x where
 c:∃p q s,p∈r/\q∈r/\s∈r/\mw p q s≠0/\rmZ p x=0/\rmZ q x=0/\rmZ s x=0
def Bdd(r:List Pln):Prop:=∀d:V3,d≠⟨0,0,0⟩->∃p∈r,0<dot p.n d
def go(x:Pt)(q:Pln)(d:V3):Pt:=⟨x.px*dot q.n d+rmZ q x*d.x,x.py*dot q.n d+rmZ q x*d.y,x.pz*dot q.n d+rmZ q x*d.z,x.pw*dot q.n d⟩
theorem Ke8(p q:Pln)(x:Pt)(d:V3):rmZ p (go x q d)=dot q.n d*rmZ p x-rmZ q x*dot p.n d:=by simp only[rmZ,go,dot];grind
theorem rb1{a b c:Int}(hc:0<c)(h:a*c<=b*c):a<=b:=Int.le_of_mul_le_mul_right h hc
theorem first(x:Pt)(d:V3):∀r:List Pln,(∀p∈r,0<=rmZ p x)->(∃p∈r,0<dot p.n d)->∃q∈r,0<dot q.n d/\∀p∈r,0<dot p.n d->rmZ q x*dot p.n d<=rmZ p x*dot q.n d
 |[],_,h=>by obtain⟨p,hp,_⟩:=h;cases hp
 |a::r,hx,h=>by
  by_cases hr:∃p∈r,0<dot p.n d
  ·obtain⟨q,hq,h1,h2⟩:=first x d r (λp hp=>hx p (Qjf _ hp)) hr
   by_cases ha:0<dot a.n d
   ·by_cases hc:rmZ q x*dot a.n d<=rmZ a x*dot q.n d
    ·refine⟨q,Qjf _ hq,h1,λp hp h3=>?_⟩
     rcases Qje.1 hp with rfl|hp
     ·exact hc
     ·exact h2 p hp h3
    ·refine⟨a,Qji,ha,λp hp h3=>?_⟩
     rcases Qje.1 hp with rfl|hp
     ·exact Int.le_refl _
     ·have h4:=h2 p hp h3;have h5:rmZ a x*dot q.n d<rmZ q x*dot a.n d:=by omega
      have h6:=Qjr h4 (Qjj ha);have h7:=Int.mul_lt_mul_of_pos_right h5 h3;have e1:rmZ q x*dot p.n d*dot a.n d=rmZ q x*dot a.n d*dot p.n d:=by grind
      have e2:rmZ a x*dot q.n d*dot p.n d=rmZ a x*dot p.n d*dot q.n d:=by grind
      have e3:rmZ p x*dot q.n d*dot a.n d=rmZ p x*dot a.n d*dot q.n d:=by grind
      refine rb1 h1 ?_;omega
   ·refine⟨q,Qjf _ hq,h1,λp hp h3=>?_⟩
    rcases Qje.1 hp with rfl|hp
    ·exact absurd h3 ha
    ·exact h2 p hp h3
  ·have ha : 0 < dot a.n d := by
    obtain⟨p,hp,h3⟩:=h
    rcases Qje.1 hp with rfl|hp
    ·exact h3
    ·exact absurd ⟨p,hp,h3⟩ hr
   refine⟨a,Qji,ha,λp hp h3=>?_⟩
   rcases Qje.1 hp with rfl|hp
   ·exact Int.le_refl _
   ·exact absurd ⟨p,hp,h3⟩ hr
theorem step{r:List Pln}{x:Pt}(hx:Inr r x)(d:V3)(h:∃p∈r,0<dot p.n d):∃q∈r,0<dot q.n d/\Inr r (go x q d):=by
 obtain⟨q,hq,h1,h2⟩:=first x d r hx.h h;refine⟨q,hq,h1,⟨Qjag hx.w h1,λp hp=>?_⟩⟩
 rw[Ke8];have h3:=hx.h p hp;have h4:=hx.h q hq;by_cases h5:0<dot p.n d
 ·have:=h2 p hp h5
  have e:rmZ p x*dot q.n d=dot q.n d*rmZ p x:=Int.mul_comm _ _;omega
 ·have h6:=Qjk (Qjj h1) h3;have h7:rmZ q x*dot p.n d<=0:=Int.mul_nonpos_of_nonneg_of_nonpos h4 (by omega)
  omega
theorem if2{h q:Pln}{x:Pt}{d:V3}(h1:0<=rmZ q x)(h2:0<=dot h.n d):rmZ h (go x q d)*x.pw<=rmZ h x*(go x q d).pw\/x.pw<=0:=by
 rcases Int.lt_or_le 0 x.pw with hw|hw
 ·left;rw[Ke8]
  have:=Qjk h1 h2
  have h3:=Qjk this (Qjj hw);have e:rmZ h x*(go x q d).pw=dot q.n d*rmZ h x*x.pw:=by unfold go;grind
  have e2:(dot q.n d*rmZ h x-rmZ q x*dot h.n d)*x.pw=dot q.n d*rmZ h x*x.pw-rmZ q x*dot h.n d*x.pw:=by grind
  omega
 ·exact .inr hw
def neg(d:V3):V3:=⟨-d.x,-d.y,-d.z⟩
theorem Ke9(a d:V3):dot a (neg d)=-dot a d:=by unfold dot neg;grind
theorem de5{d:V3}(h:d≠⟨0,0,0⟩):neg d≠⟨0,0,0⟩:=λh'=>h (by
 cases d;unfold neg at h';simp only[V3.mk.injEq] at h' ⊢;omega)
theorem turn(h:Pln){d:V3}(hd:d≠⟨0,0,0⟩):∃e,e≠(⟨0,0,0⟩:V3)/\0<=dot h.n e/\∀a,dot a d=0->dot a e=0:=by
 by_cases h1:0<=dot h.n d
 ·exact⟨d,hd,h1,λ_ h=>h⟩
 ·exact⟨neg d,de5 hd,by rw[Ke9];omega,λa h=>by rw[Ke9,h];rfl⟩
theorem mg4{n:V3}(hn:n≠⟨0,0,0⟩):∃d,d≠(⟨0,0,0⟩:V3)/\dot n d=0:=by
 by_cases h:n.x=0/\n.y=0
 ·exact⟨⟨1,0,0⟩,by simp,by unfold dot;simp[h.1]⟩
 ·refine⟨⟨n.y,-n.x,0⟩,λh'=>h ?_,by unfold dot;grind⟩
  simp only[V3.mk.injEq] at h';omega
theorem V3.ext'{a b:V3}(h1:a.x=b.x)(h2:a.y=b.y)(h3:a.z=b.z):a=b:=by cases a;cases b;simp_all
theorem if3{m n d:V3}(hm:m≠⟨0,0,0⟩)(h1:dot m d=0)(h2:dot n d≠0):g7 m n≠⟨0,0,0⟩:=λh=>by
 unfold g7 at h;simp only[V3.mk.injEq] at h;obtain⟨c1,c2,c3⟩:=h;unfold dot at h1 h2;have e1:m.x*(n.x*d.x+n.y*d.y+n.z*d.z)=0:=by grind
 have e2:m.y*(n.x*d.x+n.y*d.y+n.z*d.z)=0:=by grind
 have e3:m.z*(n.x*d.x+n.y*d.y+n.z*d.z)=0:=by grind
 have k:∀{a:Int},a*(n.x*d.x+n.y*d.y+n.z*d.z)=0->a=0:=λh=>(Int.mul_eq_zero.1 h).resolve_right h2
 exact hm (V3.ext' (k e1) (k e2) (k e3))
theorem se4(a b:V3):dot a (g7 a b)=0:=by unfold dot g7;grind
theorem se5(a b:V3):dot b (g7 a b)=0:=by unfold dot g7;grind
theorem if4{p q:Pln}{x:Pt}{d:V3}(h:rmZ p x=0)(h':dot p.n d=0):rmZ p (go x q d)=0:=by rw[Ke8,h,h'];simp
theorem if5(q:Pln)(x:Pt)(d:V3):rmZ q (go x q d)=0:=by rw[Ke8];grind
theorem Zf1{q:Pln}{d:V3}(h:0<dot q.n d):q.n≠⟨0,0,0⟩:=λh'=>by rw[h'] at h;unfold dot at h;simp at h
theorem Gf7{a b c u v w:Int}(hu:0<u)(hv:0<v)(hw:0<w)(h1:a*v<=b*u)(h2:b*w<=c*v):a*w<=c*u:=by
 have h3:=Qjr h1 (Qjj hw);have h4:=Qjr h2 (Qjj hu);have e1:a*v*w=a*w*v:=by grind
 have e2:b*u*w=b*w*u:=by grind
 have e3:c*v*u=c*u*v:=by grind
 exact rb1 hv (by omega)
theorem Mf8{r:List Pln}(hb:Bdd r)(h:Pln){x:Pt}(hx:Inr r x):∃v,Cn r v/\rmZ h v*x.pw<=rmZ h x*v.pw:=by
 obtain⟨d0,n0,p0,_⟩:=turn h (d:=⟨1,0,0⟩) (by simp)
 obtain⟨q1,m1,k1,i1⟩:=step hx d0 (hb d0 n0);have l1:=(if2 (h:=h) (x:=x) (hx.h q1 m1) p0).resolve_right (by have:=hx.w;omega)
 obtain⟨e1,ne1,he1⟩:=mg4 (Zf1 k1);obtain⟨d1,n1,p1,z1⟩:=turn h ne1;obtain⟨q2,m2,k2,i2⟩:=step i1 d1 (hb d1 n1);have l2:=(if2 (h:=h) (x:=go x q1 d0) (i1.h q2 m2) p1).resolve_right (by have:=i1.w;omega)
 have hc:=if3 (Zf1 k1) (z1 _ he1) (n:=q2.n) (by omega)
 obtain⟨d2,n2,p2,z2⟩:=turn h hc;obtain⟨q3,m3,k3,i3⟩:=step i2 d2 (hb d2 n2);have l3:=(if2 (h:=h) (x:=go (go x q1 d0) q2 d1) (i2.h q3 m3) p2).resolve_right (by have:=i2.w;omega)
 have a1:rmZ q1 (go (go x q1 d0) q2 d1)=0:=if4 (if5 _ _ _) (z1 _ he1);refine⟨_,⟨i3,q3,q1,q2,m3,m1,m2,λh0=>?_,if5 _ _ _,if4 a1 (z2 _ (se4 _ _)),if4 (if5 _ _ _) (z2 _ (se5 _ _))⟩,?_⟩
 ·have:dot q3.n d2=0:=z2 _ h0
  omega
 ·exact Gf7 i3.w i2.w hx.w l3 (Gf7 i2.w i1.w hx.w l2 l1)
theorem jd3{r:List Pln}(hb:Bdd r){h:Pln}(hv:∀v,Cn r v->0<=rmZ h v){x:Pt}(hx:Inr r x):0<=rmZ h x:=by
 obtain⟨v,h1,h2⟩:=Mf8 hb h hx;have h3:=Qjk (hv v h1) (Qjj hx.w);exact rb1 h1.w (by rw[Int.zero_mul];omega)
def mid(x y:Pt):Pt:=⟨x.px*y.pw+y.px*x.pw,x.py*y.pw+y.py*x.pw,x.pz*y.pw+y.pz*x.pw,2*(x.pw*y.pw)⟩
theorem if6(p:Pln)(x y:Pt):rmZ p (mid x y)=rmZ p x*y.pw+rmZ p y*x.pw:=by unfold rmZ mid;grind
theorem Inr.mid{r:List Pln}{x y:Pt}(hx:Inr r x)(hy:Inr r y):Inr r (mid x y):=⟨by unfold Ce.mid;exact Qjag (by decide) (Qjag hx.w hy.w),λp hp=>by
 rw[if6];exact Int.add_nonneg (Qjk (hx.h p hp) (Qjj hy.w)) (Qjk (hy.h p hp) (Qjj hx.w))⟩
def Te4(r:List Pln):Prop:=∃x:Pt,0<x.pw/\∀p∈r,0<rmZ p x
theorem Le0{r:List Pln}:∀(l:List Pln),(∀p∈l,p∈r)->(∃x,Inr r x)->(∀p∈l,∃v,Inr r v/\0<rmZ p v)->∃x,Inr r x/\∀p∈l,0<rmZ p x
 |[],_,h,_=>by obtain⟨x,h⟩:=h;exact⟨x,h,λp hp=>by cases hp⟩
 |a::l,hl,h,hv=>by
  obtain⟨x,h1,h2⟩:=Le0 l (λp hp=>hl p (Qjf _ hp)) h (λp hp=>hv p (Qjf _ hp))
  obtain⟨y,h3,h4⟩:=hv a Qji;refine⟨mid x y,h1.mid h3,λp hp=>?_⟩
  rw[if6]
  rcases Qje.1 hp with rfl|hp
  ·have:=Qjk (h1.h p (hl p Qji)) (Qjj h3.w)
   have:=Qjag h4 h1.w
   omega
  ·have:=Qjag (h2 p hp) h3.w
   have:=Qjk (h3.h p (hl p (Qjf _ hp))) (Qjj h1.w)
   omega
theorem if7{r:List Pln}(hb:Bdd r)(h0:r≠[]):Te4 r↔∀p∈r,∃v,Cn r v/\0<rmZ p v:=by
 constructor
 ·intro ⟨x,hw,hx⟩ p hp;by_cases h:∃v,Cn r v/\0<rmZ p v
  ·exact h
  ·have hx':Inr r x:=⟨hw,λq hq=>Qjj (hx q hq)⟩
   have:=jd3 hb (h:=Ca2 p) (λv hv=>by
    rw[se3]
    have:¬ 0<rmZ p v:=λh'=>h ⟨v,hv,h'⟩
    omega) hx'
   rw[se3] at this
   have:=hx p hp
   omega
 ·intro h;obtain⟨p,hp⟩:=List.exists_mem_of_ne_nil r h0;obtain⟨v,hv,_⟩:=h p hp;obtain⟨x,h1,h2⟩:=Le0 r (λ_ h=>h) ⟨v,hv.toInr⟩ λp hp=>by
   obtain⟨v,hv,h⟩:=h p hp;exact⟨v,hv.toInr,h⟩
  exact⟨x,h1.w,h2⟩
structure Eqv(x v:Pt):Prop where
 e1:x.px*v.pw=v.px*x.pw
 e2:x.py*v.pw=v.py*x.pw
 e3:x.pz*v.pw=v.pz*x.pw
theorem Eqv.rm{x v:Pt}(h:Eqv x v)(p:Pln):rmZ p x*v.pw=rmZ p v*x.pw:=by
 obtain⟨e1,e2,e3⟩:=h;unfold rmZ
 grind
theorem Eqv.inr{r:List Pln}{x v:Pt}(h:Eqv x v)(hw:0<x.pw)(hv:Inr r v):Inr r x:=⟨hw,λp hp=>by
 have:=h.rm p
 have h2:=Qjk (hv.h p hp) (Qjj hw);exact rb1 hv.w (by rw[Int.zero_mul];omega)⟩
end Go.Ev.Ce
