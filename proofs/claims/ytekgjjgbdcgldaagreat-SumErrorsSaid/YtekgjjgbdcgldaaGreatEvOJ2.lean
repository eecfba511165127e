/- Own work. -/
import Derived.Test.YtekgjjgbdcgldaaGreatEvOE6
set_option linter.all false
noncomputable section
def Qka:=@List.mem_cons
def Qkb:=@Int.mul_eq_zero
def Qkc:=@List.mem_cons_of_mem
def Qkd:=@Int.le_of_lt
def Qke:=@List.length_append
def Qkf:=@Int.mul_nonneg
def Qkg:=@List.mem_cons_self
def Qkh:=@Bool.and_true
def Qki:=@Nat.lt_irrefl
def Qkj:=@List.mem_map
def Qkk:=@List.any_eq_true
def Qkl:=@Nat.beq_refl
def Qkm:=@List.all_eq_true
def Qkn:=@Nat.gcd_dvd_left
def Qko:=@Nat.gcd_dvd_right
def Qkp:=@Bool.and_eq_true
def Qkq:=@Bool.false_eq_true
def Qkr:=@Bool.and_self
def Qks:=@Int.natCast_dvd_natCast
def Qkt:=@Nat.le_refl
def Qku:=@Nat.zero_le
def Qkv:=@Int.mul_pos
def Qkw:=@Nat.dvd_trans
def Qkx:=@Int.mul_nonpos_of_nonneg_of_nonpos
def Qky:=@Classical.byContradiction
def Qkz:=@Nat.zero_add
def Qkaa:=@List.pairwise_cons
def Qkab:=@Int.mul_le_mul_of_nonneg_right
def Qkac:=@Int.mul_le_mul_of_nonneg_left
def Qkad:=@Int.zero_mul
def Qkae:=@Int.mul_tdiv_cancel'
def Qkaf:=@List.mem_append_left
def Qkag:=@List.not_mem_nil
def Qkah:=@List.drop_zero
def Qkai:=@Int.dvd_natAbs
def Qkaj:=@Int.mul_neg
def Qkak:=@List.length_take
def Qkal:=@Int.mul_zero
def Qkam:=@Int.nonneg_of_mul_nonneg_right
def Qkan:=@List.mem_iff_getElem
def Qkao:=@List.eq_nil_of_length_eq_zero
def Qkap:=@Nat.lt_or_gt_of_ne
def Qkaq:=@List.findIdx_cons
def Qkar:=@Bool.not_eq_true'
def Qkas:=@Int.eq_of_mul_eq_mul_left
def Qkat:=@List.not_all_eq_any_not
def Qkau:=@List.length_set
def Qkav:=@Int.neg_mul
def Qkaw:=@List.mem_range
namespace Go.Ev.Ce
open Go Go.Ev Go.Ev.L Go.Proofs
theorem Ye6(x:List Pln)(y:Pln)(hx:x.length<=1000000):ta9 x y=true:=(wf5 x y hx).g
theorem Zf4(x:List Pln)(y:Pln)(hx:x.length<=1000000):I6 x y≠[]/\(I6 x y).length<=x.length+1/\∀p∈I6 x y,p=y\/p∈x:=(wf5 x y hx).p
structure Fc(ph:Nat)(out:List Pln)(m:Nat):Prop where
 h:(ph=0/\out=[])\/ph=1
 l:out.length<=m
theorem Fc.more{ph m m':Nat}{out:List Pln}(h:Fc ph out m)(hm:m<=m'):Fc ph out m':=⟨h.h,Nat.le_trans h.l hm⟩
theorem Of4 (l : List V3) (hl : l.length ≤ 48) (a c : Nat) (ha : a < l.length) (hc : c < a) (h0 : Nat) (out : List Pln) (m : Nat) (hm : m ≤ 900000) (hf : Fc h0 out m) :
  ∃t s,lp (Y5 ⟨l,(a:Int),(c:Int)⟩) ⟨h0,0,out⟩=(t,s)/\(t=s.ph+1/\Fc s.ph s.za6 (m+100)):=by
 refine P5 (step:=Y5 ⟨l,(a:Int),(c:Int)⟩) (mk:=λj (x:Nat×List Pln)=>(⟨x.1,(j:Int),x.2⟩:A4)) c (λj x=>Fc x.1 x.2 (m+2*j)/\j<=48) (λt s=>t=s.ph+1/\Fc s.ph s.za6 (m+100)) (by omega) (λj x hj hx=>?_) (λj x hj hx=>?_) 0 (h0,out) ⟨hf,by omega⟩
 ·obtain⟨h,o⟩:=x;obtain⟨⟨hx,hx2⟩,_⟩:=hx;have hn:=m9 hj (show c<=4611686018427387904 by omega)
  have hh:∀p,pa1 p l=true:=λp=>Ye5 p l (by omega)
  have hg1:∀y,ta9 o y=true:=λy=>Ye6 o y (by simp only at hx2;omega)
  have hp1:∀y,I6 o y≠[]/\(I6 o y).length<=o.length+1:=λy=>by have:=Zf4 o y (by simp only at hx2;omega);exact⟨this.1,this.2.1⟩
  have hg2:∀y z,ta9 (I6 o y) z=true:=λy z=>Ye6 _ z (by have:=(hp1 y).2;simp only at hx2;omega)
  have hp2:∀y z,(I6 (I6 o y) z).length<=o.length+2:=λy z=>by
   have:=(Zf4 (I6 o y) z (by have:=(hp1 y).2;simp only at hx2;omega)).2.1
   have:=(hp1 y).2
   omega
  simp only at hx hx2
  have stay:Fc h o (m+2*(j+1))/\j+1<=48:=⟨⟨hx,by omega⟩,by omega⟩
  have put1:∀y,Fc 1 (I6 o y) (m+2*(j+1))/\j+1<=48:=λy=>⟨⟨.inr rfl,by have:=(hp1 y).2;omega⟩,by omega⟩
  have put2:∀y z,Fc 1 (I6 (I6 o y) z) (m+2*(j+1))/\j+1<=48:=λy z=>⟨⟨.inr rfl,by have:=hp2 y z;omega⟩,by omega⟩
  rcases hx with⟨rfl,rfl⟩|rfl
  ·show Nx (J8 Stp.next Stp.exit Stp.fail _ _) _ _;simp only[J8,Ta7,Int.toNat_natCast,i9,J1,hh,hg1,hg2,hn];rw[btD (i8 hj),bt (f9 ha),bt (f9 (show c<l.length by omega)),bt (f9 (show j<l.length by omega))]
   simp only[l9];refine Nx.sl (λ_=>.nx ⟨(0,[]),rfl,stay⟩) λ_=>Nx.sl (λ_=>Nx.sl (λ_=>.nx ⟨(1,_),rfl,put2 _ _⟩) λ_=>.nx ⟨(1,_),rfl,put1 _⟩) λ_=>Nx.sl (λ_=>.nx ⟨(1,_),rfl,put1 _⟩) λ_=>.nx ⟨(0,[]),rfl,stay⟩
  ·show Nx (J9 Stp.next Stp.exit Stp.fail _ _) _ _;simp only[J9,Ta7,Int.toNat_natCast,i9,J1,hh,hg1,hg2,hn];rw[btD (i8 hj),bt (f9 ha),bt (f9 (show c<l.length by omega)),bt (f9 (show j<l.length by omega))]
   simp only[l9];refine Nx.sl (λ_=>.nx ⟨(1,o),rfl,stay⟩) λ_=>Nx.sl (λ_=>Nx.sl (λ_=>.nx ⟨(1,_),rfl,put2 _ _⟩) λ_=>.nx ⟨(1,_),rfl,put1 _⟩) λ_=>Nx.sl (λ_=>.nx ⟨(1,_),rfl,put1 _⟩) λ_=>.nx ⟨(1,o),rfl,stay⟩
 ·obtain⟨h,o⟩:=x;obtain⟨⟨hx,hx2⟩,h48⟩:=hx
  simp only at hx hx2
  rcases hx with⟨rfl,rfl⟩|rfl
  ·refine⟨1,?_,rfl,⟨.inl ⟨rfl,rfl⟩,by show 0<=_;omega⟩⟩
   show J8 Stp.next Stp.exit Stp.fail _ _=_;simp only[J8];rw[bfD (by omega)]
  ·refine⟨2,?_,rfl,⟨.inr rfl,by show o.length<=_;omega⟩⟩
   show J9 Stp.next Stp.exit Stp.fail _ _=_;simp only[J9];rw[bfD (by omega)]
theorem Of5 (l : List V3) (hl : l.length ≤ 48) (a : Nat) (ha : a < l.length) (h0 : Nat) (out : List Pln) (m : Nat) (hm : m ≤ 800000) (hf : Fc h0 out m) :
  ∃t s,lp (Y6 ⟨(a:Int)⟩) ⟨h0,l,0,out⟩=(t,s)/\(t=s.ph+1/\Fc s.ph s.za6 (m+5000)/\s.f7=l):=by
 refine P5 (step:=Y6 ⟨(a:Int)⟩) (mk:=λj (x:Nat×List Pln)=>(⟨x.1,l,(j:Int),x.2⟩:A5)) a (λj x=>Fc x.1 x.2 (m+100*j)/\j<=48) (λt s=>t=s.ph+1/\Fc s.ph s.za6 (m+5000)/\s.f7=l) (by omega) (λj x hj hx=>?_) (λj x hj hx=>?_) 0 (h0,out) ⟨hf,by omega⟩
 ·obtain⟨h,o⟩:=x;obtain⟨hx,_⟩:=hx;have hn:=m9 hj (show a<=4611686018427387904 by omega)
  simp only at hx
  obtain⟨t,s,e1,e2,e3⟩:=Of4 l hl a j ha hj h o (m+100*j) (by omega) hx
  obtain⟨s1,s2,s3⟩:=s
  simp only at e2 e3
  have go:Fc s1 s3 (m+100*(j+1))/\j+1<=48:=⟨e3.more (by omega),by omega⟩
  rcases hx.h with⟨rfl,rfl⟩|rfl
  ·show Nx (K0 Stp.next Stp.exit Stp.fail _ _) _ _;simp only[K0,i9,i6,hn];rw[btD (i8 hj),e1,e2]
   rcases e3.h with⟨rfl,rfl⟩|rfl
   ·exact .nx ⟨(0,[]),rfl,go⟩
   ·exact .nx ⟨(1,s3),rfl,go⟩
  ·show Nx (K1 Stp.next Stp.exit Stp.fail _ _) _ _;simp only[K1,i9,i6,hn];rw[btD (i8 hj),e1,e2]
   rcases e3.h with⟨rfl,rfl⟩|rfl
   ·exact .nx ⟨(0,[]),rfl,go⟩
   ·exact .nx ⟨(1,s3),rfl,go⟩
 ·obtain⟨h,o⟩:=x;obtain⟨hx,h48⟩:=hx
  simp only at hx
  have h2:=hx.more (show m+100*j<=m+5000 by omega)
  rcases hx.h with⟨rfl,rfl⟩|rfl
  ·refine⟨1,?_,rfl,h2,rfl⟩;show K0 Stp.next Stp.exit Stp.fail _ _=_;simp only[K0];rw[bfD (by omega)]
  ·refine⟨2,?_,rfl,h2,rfl⟩;show K1 Stp.next Stp.exit Stp.fail _ _=_;simp only[K1];rw[bfD (by omega)]
theorem Of6 (l : List V3) (hl : l.length ≤ 48) :
  ∃t s,lp (Ba8 ⟨⟩) ⟨0,l,0,[]⟩=(t,s)/\(t=s.ph+1/\Fc s.ph s.za6 250000):=by
 refine P5 (step:=Ba8 ⟨⟩) (mk:=λj (x:Nat×List Pln)=>(⟨x.1,l,(j:Int),x.2⟩:A9)) l.length (λj x=>Fc x.1 x.2 (5000*j)/\j<=48) (λt s=>t=s.ph+1/\Fc s.ph s.za6 250000) (by omega) (λj x hj hx=>?_) (λj x hj hx=>?_) 0 (0,[]) ⟨⟨.inl ⟨rfl,rfl⟩,Qkt _⟩,by omega⟩
 ·obtain⟨h,o⟩:=x;obtain⟨hx,_⟩:=hx;have hn:=m9 hj (show l.length<=4611686018427387904 by omega)
  simp only at hx
  obtain⟨t,s,e1,e2,e3,e4⟩:=Of5 l hl j hj h o (5000*j) (by omega) hx
  obtain⟨s1,s2,s3,s4⟩:=s
  simp only at e2 e3 e4
  subst e4;have go:Fc s1 s4 (5000*(j+1))/\j+1<=48:=⟨e3.more (by omega),by omega⟩
  rcases hx.h with⟨rfl,rfl⟩|rfl
  ·show Nx (K2 Stp.next Stp.exit Stp.fail ⟨⟩ _) _ _;simp only[K2,i9,i6,hn];rw[btD (i8 hj),e1,e2]
   rcases e3.h with⟨rfl,rfl⟩|rfl
   ·exact .nx ⟨(0,[]),rfl,go⟩
   ·exact .nx ⟨(1,s4),rfl,go⟩
  ·show Nx (K3 Stp.next Stp.exit Stp.fail ⟨⟩ _) _ _;simp only[K3,i9,i6,hn];rw[btD (i8 hj),e1,e2]
   rcases e3.h with⟨rfl,rfl⟩|rfl
   ·exact .nx ⟨(0,[]),rfl,go⟩
   ·exact .nx ⟨(1,s4),rfl,go⟩
 ·obtain⟨h,o⟩:=x;obtain⟨hx,h48⟩:=hx
  simp only at hx
  have h2:=hx.more (show 5000*j<=250000 by omega)
  rcases hx.h with⟨rfl,rfl⟩|rfl
  ·refine⟨1,?_,rfl,h2⟩;show K2 Stp.next Stp.exit Stp.fail ⟨⟩ _=_;simp only[K2];rw[bfD (by omega)]
  ·refine⟨2,?_,rfl,h2⟩;show K3 Stp.next Stp.exit Stp.fail ⟨⟩ _=_;simp only[K3];rw[bfD (by omega)]
theorem wf6(l:List Pln)(n:Int):(two (r1L tP) r1I).rd (.tup [eL tP l,i n],[])=some (l,n):=by
 have h:(r1L tP).rd [] (eL tP l)=some l:=by
  show Bool.rec (motive:=λ_=>Option (List Pln)) none (some (rt tP l)) (Bool.and (Nat.beq tP.es tP.es) (okE tP l))=_
  rw[i9,J1,Qkl];rfl
 simp only[two,h];rfl
theorem De6(l:List V3)(hl:l.length<=48):Rd (two (r1L tP) r1I) (Pa3 l) (λr=>r.1.length<=250000):=by
 obtain⟨t,s,e1,e2,e3⟩:=Of6 l hl;unfold Pa3;simp only[i9,i6,J1,be3 l (show l.length<=1000000000 by omega),l9]
 refine Rd.sl (λ_=>⟨_,([],wb9 l),rfl,rfl,Qku _⟩) λ_=>?_
 rw[e1,e2];obtain⟨s1,s2,s3,s4⟩:=s
 simp only at e3 ⊢
 rcases e3.h with⟨rfl,rfl⟩|rfl
 ·exact⟨_,([],0),rfl,rfl,Qku _⟩
 ·exact⟨_,(s4,0),rfl,wf6 s4 0,e3.l⟩
theorem me9(l:List V3)(hl:l.length<=48):eb6 l=true:=(De6 l hl).g
theorem Of7(l:List V3)(hl:l.length<=48):(xb1 l).1.length<=250000:=(De6 l hl).p
def phV(out:List V3):Nat:=match out with
 |[]=>0
 |_::_=>1
theorem Ye7(out:List V3)(x:V3):phV (out++[x])=1:=by cases out<;>rfl
theorem De7(l:List V3)(x1 x2 x3:Int):app (bL tV l) [[i x1,i x2,i x3]]=bL tV (l++[⟨x1,x2,x3⟩]):=Ka4 tV l [⟨x1,x2,x3⟩]
theorem vg2{l:List V3}{m:Nat}(h:m<l.length):(((Nat.blt (0+m) (len (bL tV l)))&&(Nat.ble (0+3) (len (o0 (bL tV l) (0+m)))))&&(oa7 [CK.int .i64,CK.int .i64,CK.int .i64] (j8 (o0 (bL tV l) (0+m)) 0)))=true:=by
 rw[Qkz,pa5 tV h,V2,show Nat.blt m l.length=true from by rw[Nat.blt_eq];exact h]
 rfl
theorem vg3{l:List V3}{m:Nat}(h:m<l.length):(((Nat.blt (0+m) (len (bL tV l)))&&(Nat.ble (2+1) (len (o0 (bL tV l) (0+m)))))&&(oa7 [CK.int .i64] (j8 (o0 (bL tV l) (0+m)) 2)))=true:=by
 rw[Qkz,pa5 tV h,V2,show Nat.blt m l.length=true from by rw[Nat.blt_eq];exact h]
 rfl
theorem wf7{n:Nat}{l:List V3}(hn:l.length=n)(h:n<=1000000000):(Nat.beq n (len (bL tV l))&&Nat.ble ((n+1)*24) room)=true:=by
 subst hn;rw[V2,Qkl,Bool.true_and,Nat.ble_eq];unfold room;omega
theorem Of8 (x : List Int) (N : Nat) (h4 : 4 ≤ N) (h8 : N ≤ 8) (j0 : Int) (hj0 : 0 ≤ j0 ∧ j0 ≤ 10) :
  ∃idx out,lp (ab9 ⟨(N:Int)⟩) ⟨0,0,x,j0,0,[]⟩=(2,⟨1,(N:Int),x,idx,N,bL tV out⟩)/\out.length=N:=by
 have key:=P5 (step:=ab9 ⟨(N:Int)⟩) (mk:=λj (a:Int×List V3)=>(⟨phV a.2,(j:Int),x,a.1,a.2.length,bL tV a.2⟩:D4)) N
  (λj a=>a.2.length=j/\0<=a.1/\a.1<=10+4*j/\j<=N) (λt s=>t=2/\∃idx out,s=⟨1,(N:Int),x,idx,N,bL tV out⟩/\out.length=N) (by omega) (λj a hj ha=>?_) (λj a hj ha=>?_) 0 (j0,[]) ⟨rfl,hj0.1,by omega,by omega⟩
 ·obtain⟨t,s,e1,rfl,idx,out,e2,e3⟩:=key;exact⟨idx,out,by rw[<- e2];exact e1,e3⟩
 ·obtain⟨at0,out⟩:=a;obtain⟨ho,ha1,ha2,_⟩:=ha
  simp only at ho ha1 ha2
  have hn:=m9 hj (show N<=4611686018427387904 by omega)
  obtain⟨v1,j1,d1,_,_,c1,b1⟩:=R4 17 x at0 ha1 (by omega) (by omega) (by omega)
  obtain⟨v2,j2,d2,_,_,c2,b2⟩:=R4 17 x j1 (by omega) (by omega) (by omega) (by omega)
  obtain⟨v3,j3,d3,_,_,c3,b3⟩:=R4 17 x j2 (by omega) (by omega) (by omega) (by omega)
  obtain⟨v4,j4,d4,_,_,c4,b4⟩:=R4 6 x j3 (by omega) (by omega) (by omega) (by omega)
  have leaf : ∀ (E : Nat → Prop) (x1 x2 x3 : Int), Nx (.next (⟨1, ((j + 1 : Nat) : Int), x, j4, j + 1, bL tV (out ++ [⟨x1, x2, x3⟩])⟩ : D4)) E
    (λs=>∃a':Int×List V3,s=⟨phV a'.2,((j+1:Nat):Int),x,a'.1,a'.2.length,bL tV a'.2⟩/\a'.2.length=j+1/\0<=a'.1/\a'.1<=10+4*((j+1:Nat):Int)/\j+1<=N):=λE x1 x2 x3=>by
   have hl:(out++[(⟨x1,x2,x3⟩:V3)]).length=j+1:=by simp[ho]
   exact .nx ⟨(j4,out++[⟨x1,x2,x3⟩]),by simp only[Ye7,hl],hl,by show 0<=j4;omega,by show j4<=_;omega,by omega⟩
  cases out with
  |nil =>
   have hj0':j=0:=by simpa using ho.symm
   subst hj0';show Nx (Ba9 Stp.next Stp.exit Stp.fail _ _) _ _;simp only[Ba9,i9,i6,d1,d2,d3,d4,hn];rw[btD (i8 hj)];have f1:decide (((0:Nat):Int)>1)=false:=rfl;have f2:decide (((0:Nat):Int)>0)=false:=rfl;have f3:decide (((0:Nat):Int)>2)=false:=rfl;have lf:∀(E:Nat->Prop) (x1 x2 x3:Int),Nx (.next (⟨1,((0+1:Nat):Int),x,j4,1,[[i x1,i x2,i x3]]⟩:D4)) E _:=leaf;simp only[f1,f2,f3,Wa6,Qkl,Qkh,l9];refine Nx.sl (λ_=>?_) (λ_=>?_)<;>refine Nx.sl (λ_=>?_) (λ_=>?_)
   all_goals first
    |exact lf _ _ _ _
    |(refine Nx.sl (λ_=>?_) (λ_=>?_)<;>exact lf _ _ _ _)
  |cons o os =>
   have h1:1<=j:=by simp only[List.length_cons] at ho;omega
   generalize hO:o::os=O at *
   have hph:phV O=1:=by subst hO;rfl
   have w1:W ((j:Int)-1)=((j-1:Nat):Int):=by rw[E4 (by omega) (by omega)];omega
   have i1:inB ((j-1:Nat):Int) j=true:=f9 (by omega)
   have r1:=vg2 (l:=O) (m:=j-1) (by omega)
   have r1':=vg3 (l:=O) (m:=j-1) (by omega)
   have rr:=wf7 ho (by omega)
   have f2:∀{inst:Decidable ((j:Int)>0)},@decide ((j:Int)>0) inst=true:=decide_eq_true (by omega)
   show Nx (sel (Nat.beq (phV O) 1) (P4 Stp.next Stp.exit Stp.fail _ _) _) _ _;rw[hph];show Nx (P4 Stp.next Stp.exit Stp.fail _ _) _ _;by_cases h2:2<=j
   ·have w2:W ((j:Int)-2)=((j-2:Nat):Int):=by rw[E4 (by omega) (by omega)];omega
    have i2:inB ((j-2:Nat):Int) j=true:=f9 (by omega)
    have r2:=vg2 (l:=O) (m:=j-2) (by omega)
    simp only[P4,i9,i6,d1,d2,d3,d4,hn,ho,w1,w2,i1,i2,Int.toNat_natCast,r1,r1',r2,rr,De7];rw[btD (i8 hj)];simp only[Qkl,Qkh,l9]
    repeat' (first | exact leaf _ _ _ _ | refine Nx.sl (λ_=>?_) (λ_=>?_))
   ·have hj1:j=1:=by omega
    subst hj1;simp only[P4,i9,i6,d1,d2,d3,d4,hn,ho,w1,i1,Int.toNat_natCast,r1,r1',rr,De7];have f1:decide (((1:Nat):Int)>1)=false:=rfl;rw[btD (i8 hj)];simp only[f1,Wa6,Qkl,Qkh,l9]
    repeat' (first | exact leaf _ _ _ _ | refine Nx.sl (λ_=>?_) (λ_=>?_))
 ·obtain⟨at0,out⟩:=a;obtain⟨ho,ha1,ha2,hjN⟩:=ha
  simp only at ho ha1 ha2
  have hj':j=N:=by omega
  subst hj';cases out with
  |nil=>simp only[List.length_nil] at ho;omega
  |cons o os =>
   refine⟨2,?_,rfl,at0,o::os,by rw[ho];rfl,ho⟩
   show P4 Stp.next Stp.exit Stp.fail _ _=_;simp only[P4];rw[bfD (by omega)]
theorem wf8{l:List V3}{n:Nat}{r:List (List b7)}{P:List V3->Prop}(hn:n=l.length)(hr:r=bL tV l)(h:P l):Rd (one (r1L tV)) (some (.sl 0 0 n 0,[⟨27,3,r,true,false,0⟩])) P:=by
 subst hn hr;refine⟨_,l,rfl,?_,h⟩;show Bool.rec (motive:=λ_=>Option (List V3)) none (some (slR tV (bL tV l) 0 l.length)) (Bool.and true (okS tV (bL tV l) 0 l.length))=_
 rw[gb6,nb7];rfl
theorem be4(x:List Int):Rd (one (r1L tV)) (jb6 x) (λr=>4<=r.length/\r.length<=8):=by
 obtain⟨v,j,e1,a1,b1,c1,d1⟩:=R4 5 x 0 (by omega) (by omega) (by omega) (by omega)
 have hN:W (4+v)=(((4+v).toNat:Nat):Int):=by rw[E4 (by omega) (by omega)];omega
 obtain⟨idx,out,e2,e3⟩:=Of8 x (4+v).toNat (by omega) (by omega) j (by omega)
 unfold jb6;simp only[i9,i6,e1,hN,e2];have h4:4<=(4+v).toNat:=by omega
 have h8:(4+v).toNat<=8:=by omega
 generalize (4+v).toNat=N at *
 have s1:lsL tV N (λk=>o0 (bL tV out) (0+k))=out:=by rw[<- e3];exact gb6 tV out
 have s2:okL tV N (λk=>o0 (bL tV out) (0+k))=true:=by rw[<- e3];exact nb7 tV out
 have gf:pb4 out=true:=Pe8 out (by omega)
 rw[s1,s2,gf];simp only[Qkl,Qkh,l9,show Nat.beq 2 1=false from rfl,Wa6]
 refine Rd.sl (λ_=>?_) λ_=>wf8 e3.symm rfl ⟨by omega,by omega⟩
 have i0:inB 0 N=true:=f9 (j:=0) (by omega)
 have i1:inB 1 N=true:=f9 (j:=1) (by omega)
 have i2:inB 2 N=true:=f9 (j:=2) (by omega)
 have i3:inB 3 N=true:=f9 (j:=3) (by omega)
 have sp:∀(v:V3) (x1 x2 x3:Int),da4 (tV.row v) 0 [i x1,i x2,i x3]=tV.row ⟨x1,x2,x3⟩:=λ_ _ _ _=>rfl
 have rl:∀v:V3,Nat.ble (0+3) (len (tV.row v))=true:=λ_=>rfl
 have ck:∀v:V3,oa7 [CK.int .i64,CK.int .i64,CK.int .i64] (j8 (tV.row v) 0)=true:=λ_=>rfl
 have gr:∀(l:List V3) (k:Nat),l.length=N->k<4->o0 (bL tV l) k=tV.row (gL tV l k):=λl k hl hk=>pa5 tV (by omega)
 have bl:∀(l:List V3) (k:Nat),l.length=N->k<4->Nat.blt k (len (bL tV l))=true:=λl k hl hk=>by rw[V2,Nat.blt_eq];omega
 have ls:∀(l:List V3) (k:Nat) (v:V3),l.length=N->(l.set k v).length=N:=λl k v hl=>by rw[Qkau];exact hl
 rw[gr out 0 e3 (by omega),gr out 1 e3 (by omega)]
 simp only[sp,sc9];rw[gr _ 2 (ls out 1 _ e3) (by omega)]
 simp only[sp,sc9];rw[gr _ 3 (ls _ 2 _ (ls out 1 _ e3)) (by omega)]
 simp only[sp,sc9,rl,ck,i0,i1,i2,i3,bl out 0 e3 (by omega),bl out 1 e3 (by omega),bl _ 2 (ls out 1 _ e3) (by omega),bl _ 3 (ls _ 2 _ (ls out 1 _ e3)) (by omega),Qkh,l9]
 exact wf8 (by simp only[Qkau];omega) rfl (by simp only[Qkau];omega)
theorem Ld4(x:List Int):kc8 x=true:=(be4 x).g
theorem Ld5(x:List Int):4<=(D5 x).length/\(D5 x).length<=8:=(be4 x).p
theorem id5{l:List Pln}{P:List Pln->Prop}(h:P l):Rd (one (r1L tP)) (some (eL tP l,[])) P:=⟨_,l,rfl,Ce9 tP l,h⟩
theorem Of9(x:List Int):Rd (one (r1L tP)) (Ea0 x) (λr=>r.length<=250000):=by
 obtain⟨v1,j1,e1,a1,b1,c1,d1⟩:=R4 4 x 0 (by omega) (by omega) (by omega) (by omega)
 obtain⟨w1,w2,w3,j2,e2,p1,p2,p3,c2,d2⟩:=Cb3 6 x j1 (by omega) (by omega) (by omega) (by omega)
 obtain⟨v3,j3,e3,a3,b3,c3,d3⟩:=R4 6 x j2 (by omega) (by omega) (by omega) (by omega)
 obtain⟨v4,j4,e4,a4,b4,c4,d4⟩:=R4 6 x j3 (by omega) (by omega) (by omega) (by omega)
 obtain⟨v5,j5,e5,a5,b5,c5,d5⟩:=R4 6 x j4 (by omega) (by omega) (by omega) (by omega)
 have hin:inB (if 7<(x.length:Int) then 7 else (x.length:Int)) (x.length+1)=true:=by
  rw[wd7];apply decide_eq_true
  split<;>omega
 have hok:∀n m,okL tI n (λk=>(λk=>tI.row (gL tI x k)) (m+k))=true:=λn m=>nb6 tI (f:=λk=>gL tI x (m+k)) λ_ _=>rfl
 unfold Ea0;simp only[i9,i6,J1,e1,e2,e3,e4,e5,Xe4,Xe5,hin,hok,ub1,me7,Ld4,Qkl,Qkh,l9];generalize hL:lsL tI _ _=L;generalize hB:Ec5 _ _=B;have hB6:B.length=6:=by rw[<- hB];rfl
 have hl6:len (bL tP B)=6:=by rw[V2,hB6]
 have ea:app [] (bL tP B)=bL tP B:=rfl;have es:∀q:Pln,slR tP (bL tP (B++[q])) 0 (0+6+1)=B++[q]:=λq=>by
  have:=gb6 tP (B++[q])
  rw[Qke,hB6] at this;exact this
 have eo:∀q:Pln,okS tP (bL tP (B++[q])) 0 (0+6+1)=true:=λq=>by
  have:=nb7 tP (B++[q])
  rw[Qke,hB6] at this;exact this
 have gF:∀q:Pln,Na8 (B++[q])=true:=λq=>me6 (by rw[Qke,hB6];exact (by decide:6+1<=1000000000))
 have q1:Nat.ble ((0+6)*32) room=true:=ja4 (by omega)
 have q2:Nat.ble (((0+6)+1)*32) room=true:=ja4 (by omega)
 have q3:Nat.beq (0+6) 6=true:=rfl;have hp:=Ld5 L;have gf:eb6 (D5 L)=true:=me9 _ (by omega)
 have pf:=Of7 (D5 L) (by omega)
 simp only[hl6,ea,yc0,es,eo,gF,q1,q2,q3,Qkr,gf,l9,show Nat.beq 6 0=false from rfl,Wa6]
 have box:Rd (one (r1L tP)) (some (eL tP B,[])) (λr=>r.length<=250000):=id5 (by rw[hB6];omega)
 have fcs:Rd (one (r1L tP)) (some (eL tP (xb1 (D5 L)).1,[])) (λr=>r.length<=250000):=id5 pf
 exact Rd.sl (λ_=>Rd.sl (λ_=>Ld3 (by rw[Qke,hB6];rfl) rfl (by rw[Qke,hB6];exact (by decide:6+1<=250000))) λ_=>Rd.sl (λ_=>Rd.sl (λ_=>fcs) λ_=>box) λ_=>box) λ_=>Rd.sl (λ_=>Rd.sl (λ_=>fcs) λ_=>box) λ_=>box
theorem hg8(x:List Int):Nc0 x=true:=(Of9 x).g
theorem hg9{α:Type}(t:Ty α)(k:Nat)(l:List α):(one (r1L t)).rd (.sl 0 0 l.length 0,[⟨k,t.es,bL t l,true,false,0⟩])=some l:=by
 show Bool.rec (motive:=λ_=>Option (List α)) none (some (slR t (bL t l) 0 l.length)) (Bool.and (Nat.beq t.es t.es) (okS t (bL t l) 0 l.length))=_
 rw[gb6,nb7,Qkl];rfl
theorem Zb7(v:V3):ya1 v=inV v/\ya2 v=true:=by
 have h3:[v.x,v.y,v.z].length<=1000000000:=by simp
 have:Lb6 v=some (b (inV v),[]):=by
  unfold Lb6 inV;simp only[ec9 24 _ (by omega) h3,fc0 24 _ (by omega) h3,l9]
  simp only[List.all_cons,List.all_nil,Qkh]
 unfold ya1 ya2;rw[this];exact⟨rfl,rfl⟩
def has(c:List Pln)(v:V3):Bool:=(chk c==0)&&(inV v&&inn c ⟨v.x,v.y,v.z,1⟩)
theorem wf9{c:List Pln}(hc:c.length<=1000000000)(v:V3):Lb8 c v=some (b (has c v),[]):=by
 unfold Lb8 has;simp only[i9,J1,Xc5 c hc,Xc6 c hc,(Zb7 v).1,(Zb7 v).2,Kd0 c _ hc,Kd1 c _ hc];cases chk c==0 with
 |false=>rfl
 |true=>cases inV v<;>rfl
theorem Zf5{c:List Pln}(hc:c.length<=1000000000)(v:V3):Lb9 c v=has c v:=by unfold Lb9;rw[wf9 hc];rfl
theorem Zf6{c:List Pln}(hc:c.length<=1000000000)(v:V3):Mb0 c v=true:=by unfold Mb0;rw[wf9 hc];rfl
def apart(a c:List Pln):Bool:=!((chk a==0)&&(chk c==0))||!Vd6 (a++c++ws)
def hf0(a c:List Pln):Bool:=ful a&&((chk c==0)&&(pts a).all (inn c))
theorem Qe0(x:Pt)(c:List Pln)(hc:c.length<=1000000000):ab6 ⟨x.px,x.py,x.pz,x.pw,c⟩=⟨1,!inn c x⟩:=by
 unfold ab6 ta7;simp only[i9,J1,l9];show sl (fa1 c x) (Ga4.mk 1 (!fa0 c x)) _=_;rw[Kd0 c x hc,Kd1 c x hc];rfl
theorem be5{a c:List Pln}(ha:a.length<=1000000000)(hc:c.length<=1000000000):Xa9 a c=some (b (hf0 a c),[]):=by
 have hX:=Of1 a;have h:=wa3 (step:=J7 ⟨pts a,((pts a).length:Int)⟩) (mk:=λj=>(⟨(j:Int),c⟩:p8)) (c:=λx=>!inn c x) (u:=1) (fin:=2) tX (pts a) (by omega)
  (λj hj=>by
   simp only[J7,H5,Int.toNat_natCast,i9,i6,Qe0 _ _ hc,m9 hj (show (pts a).length<=4611686018427387904 by omega)]
   rw[btD (i8 hj),bt (f9 hj)]
   rfl)
  (by simp only[J7,H5];rw[bfD (n5 (Qki _))]) 0 (Qku _)
 rw[Qkah] at h;have e:((pts a).any λx=>!inn c x)=!(pts a).all (inn c):=by rw[Qkat]
 unfold Xa9 la5 D1 sa8 I5 hf0;simp only[i9,i6,J1,vf5 ha,vf6 ha,Xc5 c hc,Xc6 c hc,vf3 ha,vf4 ha];rw[show (⟨0,c⟩:p8)=⟨((0:Nat):Int),c⟩ from rfl,h,e]
 cases ful a with
 |false=>rfl
 |true =>
  cases chk c==0 with
  |false=>rfl
  |true =>
   cases (pts a).all (inn c) with
   |true=>rfl
   |false =>
    simp only[Bool.not_false,if_true,Qkz];show some (b (!(decide ((((pts a).findIdx λx=>!inn c x:Nat):Int)>=0))),[])=_
    rw[show decide ((((pts a).findIdx λx=>!inn c x:Nat):Int)>=0)=true from decide_eq_true (by omega)]
    rfl
theorem xf0{a c:List Pln}(ha:a.length<=1000000000)(hc:c.length<=1000000000):rb9 a c=hf0 a c:=by unfold rb9;rw[be5 ha hc];rfl
theorem xf1{a c:List Pln}(ha:a.length<=1000000000)(hc:c.length<=1000000000):sb0 a c=true:=by unfold sb0;rw[be5 ha hc];rfl
def onc(X:List Pt)(p:Pln):Nat:=X.countP λx=>rm p x==0
def keep(X:List Pt)(p:Pln):Bool:=!decide ((onc X p:Int)<3)
theorem Xc7{α:Type}(c:α->Bool):∀l:List α,(l.take (l.findIdx c)).filter (λx=>!c x)=l.take (l.findIdx c)
 |[]=>rfl
 |x::l=>by
  rw[Qkaq];cases h:c x with
  |true=>rfl
  |false =>
   simp only[cond_false,List.take_succ_cons,List.filter_cons,h,Bool.not_false,if_true];rw[Xc7 c l]
theorem Qe1{α:Type}(l:List α)(j:Nat)(h:j<l.length):l.take (j+1)=l.take j++[l[j]]:=by rw[List.take_succ_eq_append_getElem h]
theorem Gb2{α:Type}(t:Ty α){l:List α}{j:Nat}(h:j<l.length):l.take (j+1)=l.take j++[gL t l j]:=by rw[Qe1 l j h,Ma0 t h]
theorem id6{α:Type}(t:Ty α){l r:List α}{j:Nat}(h:l.drop j=r.drop j):gL t l j=gL t r j:=by
 have h1:=Xc4 t l j 0;have h2:=Xc4 t r j 0;rw[Nat.add_zero] at h1 h2;rw[<- h1,<- h2,h]
theorem Xc8{α:Type}{l r:List α}{j:Nat}(h:l.drop j=r.drop j)(k:Nat):l.drop (j+k)=r.drop (j+k):=by rw[<- List.drop_drop,<- List.drop_drop,h]
structure Del(l:List Pln)(f:Pln->Bool)(cur:List Pln)(m j:Nat):Prop where
 len:cur.length=l.length
 t:cur.take m=(l.take j).filter f
 d:cur.drop j=l.drop j
 le:m<=j
 lm:m<=l.length
theorem Pf0(l:List Pln)(n:Nat):j8 (bL tP l) n=bL tP (l.drop n):=by unfold bL;rw[L2,o7,o7,List.map_drop]
def eqP(x y:Pln):Bool:=x.n.x==y.n.x&&(x.n.y==y.n.y&&(x.n.z==y.n.z&&(x.b==y.b&&true)))
theorem Xc9(x y:Pln):eqP x y=true↔x=y:=by
 unfold eqP;simp only[Qkh,Qkp,beq_iff_eq];refine⟨λ⟨h1,h2,h3,h4⟩=>?_,λh=>by subst h;exact⟨rfl,rfl,rfl,rfl⟩⟩
 obtain⟨⟨x1,x2,x3⟩,x4⟩:=x;obtain⟨⟨y1,y2,y3⟩,y4⟩:=y
 simp only at h1 h2 h3 h4
 subst h1 h2 h3 h4;rfl
def ddF:Pln->List Pln->List Pln
 |_,[]=>[]
 |a,x::l=>if eqP x a then ddF x l else x::ddF x l
def dd:List Pln->List Pln
 |[]=>[]
 |x::l=>x::ddF x l
structure Cmp(l:List Pln)(n:Nat)(cur:List Pln)(m j:Nat)(R:List Pln):Prop where
 len:cur.length=l.length
 t:cur.take m++ddF (gL tP l (j-1)) ((l.take n).drop j)=R
 d:cur.drop (j-1)=l.drop (j-1)
 le:m+1<=j
theorem xf2(l:List Pln)(n:Nat)(hn:n<=l.length):slR tP (bL tP l) 0 n=l.take n:=Bd2 tP (by rw[Qkak];omega) λk hk=>by
 rw[Qkz,pa5 tP (by omega)]
 congr 1;simp[gL,List.getD_eq_getElem?_getD,List.getElem?_take,hk]
theorem xf3(l:List Pln)(n:Nat)(hn:n<=l.length):okS tP (bL tP l) 0 n=true:=nb6 tP (f:=λk=>gL tP l k) λk hk=>by rw[Qkz,pa5 tP (by omega)]
end Go.Ev.Ce
namespace Go.Ev.Ce
open Go Go.Ev Go.Ev.L Go.Proofs Go.Sort
theorem Ld6(l:List Pln):List.Perm (Hc0 l) l:=List.mergeSort_perm l _
theorem hf3(x y z:Pln)(h1:(!ltOf va9 y x)=true)(h2:(!ltOf va9 z y)=true):(!ltOf va9 z x)=true:=by
 simp only[Qkar,ob9,decide_eq_false_iff_not] at *
 unfold LtP at *
 omega
theorem hf4(x y:Pln):((!ltOf va9 y x)||!ltOf va9 x y)=true:=by
 simp only[Bool.or_eq_true,Qkar,ob9,decide_eq_false_iff_not];unfold LtP;omega
theorem ne0(l:List Pln):(Hc0 l).Pairwise λx y=>(!ltOf va9 y x)=true:=List.pairwise_mergeSort hf3 hf4 l
instance:DecidableEq Pln:=λx y=>decidable_of_iff _ (Xc9 x y)
def PC:List Pt:=[⟨0,0,0,1⟩,⟨0,0,1,4⟩,⟨0,1,0,3⟩,⟨1,0,0,2⟩]
end Go.Ev.Ce
namespace Go.Ev.Ce
open Go Go.Ev Go.Ev.L Go.Proofs
set_option maxRecDepth 100000
structure Ec6 where
structure yc1 where
structure yc2 where
structure Ec7 where
 alt:Nat
structure id7 where
structure Yc0 where
structure Yc1 where
structure id8 where
 alt:Nat
structure Vd7 where
structure Vd8 where
 alt:Nat
structure Pd5 where
 r5:List Pt
structure xd0 where
 r5:List Pt
structure xd1 where
structure Pd6 where
 alt:Nat
 r5:List Pt
structure Ld7 where
 r5:List Pt
structure Ld8 where
 alt:Nat
 r5:List Pt
structure be6 where
structure be7 where
structure re3 where
structure re4 where
structure xf4 where
 is1:Int
structure xf5 where
 ph:Nat
 is7:Int
 n7:List Int
 b9:Int
 ns6:Nat
 eh1:List (List b7)
structure Pf1 where
 d9:List Pln
 Vb3:List Pt
 is5:Int
 ag8:List Pln
structure Pf2 where
 ph:Nat
 (is6 is7:Int)
structure Pf3 where
structure Pf4 where
 ph:Nat
 d9:List Pln
 Vb3:List Pt
 is5:Int
 ag8:List Pln
theorem Pf5(p q:Pln):ya5 p q=some (i (va9 p q),[]):=by
 have key:∃t s,lp (K8 ⟨p.n.x,p.n.y,p.n.z,p.b,q.n.x,q.n.y,q.n.z,q.b⟩) ⟨0⟩=(t,s)/\((t=1/\va9 p q=-1)\/(t=2/\va9 p q=1)\/(t=3/\va9 p q=0)):=by
  refine P5 (step:=K8 ⟨p.n.x,p.n.y,p.n.z,p.b,q.n.x,q.n.y,q.n.z,q.b⟩) (mk:=λj (_:Unit)=>(⟨(j:Int)⟩:U4)) 4
   (λj _=>(1<=j->p.n.x=q.n.x)/\(2<=j->p.n.y=q.n.y)/\(3<=j->p.n.z=q.n.z)/\(4<=j->p.b=q.b))
   (λt s=>(t=1/\va9 p q=-1)\/(t=2/\va9 p q=1)\/(t=3/\va9 p q=0)) (by omega) (λj x hj hI=>?_) (λj x hj hI=>?_) 0 () ⟨by omega,by omega,by omega,by omega⟩
  ·have hn:=m9 hj (show 4<=4611686018427387904 by omega)
   simp only[K8,Y4,Int.toNat_natCast,hn];have hlt:(j:Int)<4:=by omega
   have hin:=f9 hj;have g:∀x1 x2 x3 x4:Int,((Nat.ble ((0+(j*1))+1) 4)&&(oa7 [CK.int .i64] (j8 [i x1,i x2,i x3,i x4] (0+(j*1)))))=true:=by
    intro x1 x2 x3 x4
    match j,hj with
    |0,_=>rfl
    |1,_=>rfl
    |2,_=>rfl
    |3,_=>rfl
   rw[btD hlt];simp only[hin,g,l9];obtain⟨i1,i2,i3,i4⟩:=hI
   match j,hj with
   |0,_ =>
    show Nx (sl (decide (p.n.x<q.n.x)) _ (sl (decide (p.n.x>q.n.x)) _ _)) _ _;refine Nx.sl (λh=>.ex ?_) λh=>Nx.sl (λh'=>.ex ?_) λh'=>.nx ⟨(),rfl,?_⟩<;>simp only[decide_eq_true_eq,decide_eq_false_iff_not] at h
    ·left;exact⟨rfl,by simp[va9,fb5,h]⟩
    ·right;left;simp only[decide_eq_true_eq] at h';exact⟨rfl,by simp[va9,fb5,h,h']⟩
    ·simp only[decide_eq_false_iff_not] at h';exact⟨by omega,by omega,by omega,by omega⟩
   |1,_ =>
    have j1:=i1 (by omega)
    show Nx (sl (decide (p.n.y<q.n.y)) _ (sl (decide (p.n.y>q.n.y)) _ _)) _ _;refine Nx.sl (λh=>.ex ?_) λh=>Nx.sl (λh'=>.ex ?_) λh'=>.nx ⟨(),rfl,?_⟩<;>simp only[decide_eq_true_eq,decide_eq_false_iff_not] at h
    ·left;exact⟨rfl,by simp[va9,fb5,h,j1]⟩
    ·right;left;simp only[decide_eq_true_eq] at h';exact⟨rfl,by simp[va9,fb5,h,h',j1]⟩
    ·simp only[decide_eq_false_iff_not] at h';exact⟨λ_=>j1,by omega,by omega,by omega⟩
   |2,_ =>
    have j1:=i1 (by omega);have j2:=i2 (by omega)
    show Nx (sl (decide (p.n.z<q.n.z)) _ (sl (decide (p.n.z>q.n.z)) _ _)) _ _;refine Nx.sl (λh=>.ex ?_) λh=>Nx.sl (λh'=>.ex ?_) λh'=>.nx ⟨(),rfl,?_⟩<;>simp only[decide_eq_true_eq,decide_eq_false_iff_not] at h
    ·left;exact⟨rfl,by simp[va9,fb5,h,j1,j2]⟩
    ·right;left;simp only[decide_eq_true_eq] at h';exact⟨rfl,by simp[va9,fb5,h,h',j1,j2]⟩
    ·simp only[decide_eq_false_iff_not] at h';exact⟨λ_=>j1,λ_=>j2,by omega,by omega⟩
   |3,_ =>
    have j1:=i1 (by omega);have j2:=i2 (by omega);have j3:=i3 (by omega)
    show Nx (sl (decide (p.b<q.b)) _ (sl (decide (p.b>q.b)) _ _)) _ _;refine Nx.sl (λh=>.ex ?_) λh=>Nx.sl (λh'=>.ex ?_) λh'=>.nx ⟨(),rfl,?_⟩<;>simp only[decide_eq_true_eq,decide_eq_false_iff_not] at h
    ·left;exact⟨rfl,by simp[va9,fb5,h,j1,j2,j3]⟩
    ·right;left;simp only[decide_eq_true_eq] at h';exact⟨rfl,by simp[va9,fb5,h,h',j1,j2,j3]⟩
    ·simp only[decide_eq_false_iff_not] at h';exact⟨λ_=>j1,λ_=>j2,λ_=>j3,by omega⟩
  ·simp only[K8,Y4];rw[bfD (by omega)]
   obtain⟨i1,i2,i3,i4⟩:=hI;have j1:=i1 (by omega);have j2:=i2 (by omega);have j3:=i3 (by omega);have j4:=i4 (by omega)
   exact⟨_,rfl,.inr (.inr ⟨rfl,by simp[va9,fb5,j1,j2,j3,j4]⟩)⟩
 obtain⟨t,s,h1,h2⟩:=key;unfold ya5
 simp only
 rw[h1]
 rcases h2 with⟨rfl,e⟩|⟨rfl,e⟩|⟨rfl,e⟩<;>rw[e]<;>rfl
theorem ig0(p q:Pln):ya6 p q=va9 p q:=by unfold ya6;rw[Pf5];rfl
def atP(x:List Pln)(y:Pln):Nat:=x.findIdx λp=>!decide (va9 p y<0)
def ins(x:List Pln)(y:Pln):List Pln:=if (atP x y<x.length/\eqP (gL tP x (atP x y)) y=true) then x else pc8 x y (atP x y)
def lb9(l:List Pln):Prop:=l.Pairwise LtP
theorem be8{x y z:Pln}(h1:LtP x y)(h2:LtP y z):LtP x z:=by unfold LtP at *;omega
theorem xd2(x:Pln):¬ LtP x x:=by unfold LtP;omega
theorem Ye8(x y:Pln):LtP x y\/x=y\/LtP y x:=by
 by_cases h1:LtP x y
 ·exact .inl h1
 ·by_cases h2:LtP y x
  ·exact .inr (.inr h2)
  ·refine .inr (.inl ?_);unfold LtP at h1 h2;have e1:x.n.x=y.n.x:=by omega
   have e2:x.n.y=y.n.y:=by omega
   have e3:x.n.z=y.n.z:=by omega
   have e4:x.b=y.b:=by omega
   cases x with | mk n b=>cases y with | mk m c=>cases n;cases m;simp_all
theorem id9:∀{l r:List Pln},lb9 l->lb9 r->(∀p,p∈l↔p∈r)->l=r
 |[],[],_,_,_=>rfl
 |[],b::r,_,_,h=>by have:=(h b).2 Qkg;cases this
 |a::l,[],_,_,h=>by have:=(h a).1 Qkg;cases this
 |a::l,b::r,hl,hr,h=>by
  obtain⟨hl1,hl2⟩:=Qkaa.1 hl;obtain⟨hr1,hr2⟩:=Qkaa.1 hr;have hab:a=b:=by
   rcases Qka.1 ((h a).1 Qkg) with e|h1
   ·exact e
   ·rcases Qka.1 ((h b).2 Qkg) with e|h2
    ·exact e.symm
    ·exact absurd (be8 (hr1 a h1) (hl1 b h2)) (xd2 b)
  subst hab;rw[id9 hl2 hr2 λp=>?_]
  constructor
  ·intro hp
   rcases Qka.1 ((h p).1 (Qkc _ hp)) with e|h1
   ·subst e;exact absurd (hl1 p hp) (xd2 p)
   ·exact h1
  ·intro hp
   rcases Qka.1 ((h p).2 (Qkc _ hp)) with e|h1
   ·subst e;exact absurd (hr1 p hp) (xd2 p)
   ·exact h1
def Rb2:List Pln->Pln->List Pln
 |[],y=>[y]
 |a::l,y=>if va9 a y<0 then a::Rb2 l y else if eqP a y then a::l else y::a::l
theorem xf6(y:Pln):∀x,ins x y=Rb2 x y
 |[]=>rfl
 |a::l=>by
  have ih:=xf6 y l;unfold Rb2;by_cases h:va9 a y<0
  ·rw[if_pos h,<- ih];have e:atP (a::l) y=atP l y+1:=by unfold atP;rw[Qkaq];simp[h]
   unfold ins;rw[e];have e2:gL tP (a::l) (atP l y+1)=gL tP l (atP l y):=rfl;rw[e2];simp only[List.length_cons,Nat.add_lt_add_iff_right];split
   ·rfl
   ·rfl
  ·rw[if_neg h];have e:atP (a::l) y=0:=by unfold atP;rw[Qkaq];simp[h]
   unfold ins;rw[e];have e2:gL tP (a::l) 0=a:=rfl;rw[e2];simp only[List.length_cons,Nat.zero_lt_succ,true_and];split
   ·rfl
   ·rfl
theorem fc1(y p:Pln):∀x,p∈Rb2 x y↔p=y\/p∈x
 |[]=>by simp[Rb2]
 |a::l=>by
  unfold Rb2;have ih:=fc1 y p l;split
  ·simp only[Qka,ih];constructor
   ·rintro (h|h|h)
    ·exact .inr (.inl h)
    ·exact .inl h
    ·exact .inr (.inr h)
   ·rintro (h|h|h)
    ·exact .inr (.inl h)
    ·exact .inl h
    ·exact .inr (.inr h)
  ·split
   ·rename_i h;rw[Xc9] at h;subst h;simp only[Qka];constructor
    ·exact λh=>.inr h
    ·rintro (h|h)
     ·exact .inl h
     ·exact h
   ·simp only[Qka]
theorem Yc2(y:Pln):∀{x},lb9 x->lb9 (Rb2 x y)
 |[],_=>List.pairwise_singleton _ _
 |a::l,h=>by
  obtain⟨h1,h2⟩:=Qkaa.1 h;unfold Rb2;split
  ·rename_i hc;rw[ke3] at hc;refine Qkaa.2 ⟨λp hp=>?_,Yc2 y h2⟩
   rcases (fc1 y p l).1 hp with e|hp
   ·subst e;exact hc
   ·exact h1 p hp
  ·rename_i hc;rw[ke3] at hc;split
   ·exact h
   ·rename_i hne;have hlt:LtP y a:=by
     rcases Ye8 y a with h|h|h
     ·exact h
     ·exact absurd ((Xc9 _ _).2 h.symm) hne
     ·exact absurd h hc
    refine Qkaa.2 ⟨λp hp=>?_,h⟩
    rcases Qka.1 hp with e|hp
    ·subst e;exact hlt
    ·exact be8 hlt (h1 p hp)
theorem Ye9{σ:Type}{step:σ->Stp σ}{s:σ}{t:Nat}(h:step s=.exit t):lp step s=(t,s):=by rw[nf7];exact Ad9 h
theorem hf5:Hc0 []=[]:=Qkao (Bc2 [])
end Go.Ev.Ce
namespace Go.Ev.Ce
def rmZ(p:Pln)(x:Pt):Int:=p.b*x.pw-(p.n.x*x.px+p.n.y*x.py+p.n.z*x.pz)
structure Inr(r:List Pln)(x:Pt):Prop where
 w:0<x.pw
 h:∀p∈r,0<=rmZ p x
def ba4(p:Pln):Pln:=⟨⟨-p.n.x,-p.n.y,-p.n.z⟩,-p.b⟩
theorem Ob9(p:Pln)(x:Pt):rmZ (ba4 p) x=-rmZ p x:=by unfold rmZ ba4;grind
structure Cn(r:List Pln)(x:Pt):Prop extends Inr r x where
 c:∃p q s,p∈r/\q∈r/\s∈r/\mw p q s≠0/\rmZ p x=0/\rmZ q x=0/\rmZ s x=0
def Bdd(r:List Pln):Prop:=∀d:V3,d≠⟨0,0,0⟩->∃p∈r,0<dot p.n d
def go(x:Pt)(q:Pln)(d:V3):Pt:=⟨x.px*dot q.n d+rmZ q x*d.x,x.py*dot q.n d+rmZ q x*d.y,x.pz*dot q.n d+rmZ q x*d.z,x.pw*dot q.n d⟩
theorem De8(p q:Pln)(x:Pt)(d:V3):rmZ p (go x q d)=dot q.n d*rmZ p x-rmZ q x*dot p.n d:=by simp only[rmZ,go,dot];grind
theorem tb3{a b c:Int}(hc:0<c)(h:a*c<=b*c):a<=b:=Int.le_of_mul_le_mul_right h hc
theorem first(x:Pt)(d:V3):∀r:List Pln,(∀p∈r,0<=rmZ p x)->(∃p∈r,0<dot p.n d)->∃q∈r,0<dot q.n d/\∀p∈r,0<dot p.n d->rmZ q x*dot p.n d<=rmZ p x*dot q.n d
 |[],_,h=>by obtain⟨p,hp,_⟩:=h;cases hp
 |a::r,hx,h=>by
  by_cases hr:∃p∈r,0<dot p.n d
  ·obtain⟨q,hq,h1,h2⟩:=first x d r (λp hp=>hx p (Qkc _ hp)) hr
   by_cases ha:0<dot a.n d
   ·by_cases hc:rmZ q x*dot a.n d<=rmZ a x*dot q.n d
    ·refine⟨q,Qkc _ hq,h1,λp hp h3=>?_⟩
     rcases Qka.1 hp with rfl|hp
     ·exact hc
     ·exact h2 p hp h3
    ·refine⟨a,Qkg,ha,λp hp h3=>?_⟩
     rcases Qka.1 hp with rfl|hp
     ·exact Int.le_refl _
     ·have h4:=h2 p hp h3;have h5:rmZ a x*dot q.n d<rmZ q x*dot a.n d:=by omega
      have h6:=Qkab h4 (Qkd ha);have h7:=Int.mul_lt_mul_of_pos_right h5 h3;have e1:rmZ q x*dot p.n d*dot a.n d=rmZ q x*dot a.n d*dot p.n d:=by grind
      have e2:rmZ a x*dot q.n d*dot p.n d=rmZ a x*dot p.n d*dot q.n d:=by grind
      have e3:rmZ p x*dot q.n d*dot a.n d=rmZ p x*dot a.n d*dot q.n d:=by grind
      refine tb3 h1 ?_;omega
   ·refine⟨q,Qkc _ hq,h1,λp hp h3=>?_⟩
    rcases Qka.1 hp with rfl|hp
    ·exact absurd h3 ha
    ·exact h2 p hp h3
  ·have ha : 0 < dot a.n d := by
    obtain⟨p,hp,h3⟩:=h
    rcases Qka.1 hp with rfl|hp
    ·exact h3
    ·exact absurd ⟨p,hp,h3⟩ hr
   refine⟨a,Qkg,ha,λp hp h3=>?_⟩
   rcases Qka.1 hp with rfl|hp
   ·exact Int.le_refl _
   ·exact absurd ⟨p,hp,h3⟩ hr
theorem step{r:List Pln}{x:Pt}(hx:Inr r x)(d:V3)(h:∃p∈r,0<dot p.n d):∃q∈r,0<dot q.n d/\Inr r (go x q d):=by
 obtain⟨q,hq,h1,h2⟩:=first x d r hx.h h;refine⟨q,hq,h1,⟨Qkv hx.w h1,λp hp=>?_⟩⟩
 rw[De8];have h3:=hx.h p hp;have h4:=hx.h q hq;by_cases h5:0<dot p.n d
 ·have:=h2 p hp h5
  have e:rmZ p x*dot q.n d=dot q.n d*rmZ p x:=Int.mul_comm _ _;omega
 ·have h6:=Qkf (Qkd h1) h3;have h7:rmZ q x*dot p.n d<=0:=Qkx h4 (by omega)
  omega
theorem xf7{h q:Pln}{x:Pt}{d:V3}(h1:0<=rmZ q x)(h2:0<=dot h.n d):rmZ h (go x q d)*x.pw<=rmZ h x*(go x q d).pw\/x.pw<=0:=by
 rcases Int.lt_or_le 0 x.pw with hw|hw
 ·left;rw[De8]
  have:=Qkf h1 h2
  have h3:=Qkf this (Qkd hw);have e:rmZ h x*(go x q d).pw=dot q.n d*rmZ h x*x.pw:=by unfold go;grind
  have e2:(dot q.n d*rmZ h x-rmZ q x*dot h.n d)*x.pw=dot q.n d*rmZ h x*x.pw-rmZ q x*dot h.n d*x.pw:=by grind
  omega
 ·exact .inr hw
def neg(d:V3):V3:=⟨-d.x,-d.y,-d.z⟩
theorem xd3(a d:V3):dot a (neg d)=-dot a d:=by unfold dot neg;grind
theorem ne2{d:V3}(h:d≠⟨0,0,0⟩):neg d≠⟨0,0,0⟩:=λh'=>h (by
 cases d;unfold neg at h';simp only[V3.mk.injEq] at h' ⊢;omega)
theorem turn(h:Pln){d:V3}(hd:d≠⟨0,0,0⟩):∃e,e≠(⟨0,0,0⟩:V3)/\0<=dot h.n e/\∀a,dot a d=0->dot a e=0:=by
 by_cases h1:0<=dot h.n d
 ·exact⟨d,hd,h1,λ_ h=>h⟩
 ·exact⟨neg d,ne2 hd,by rw[xd3];omega,λa h=>by rw[xd3,h];rfl⟩
theorem Pf6{n:V3}(hn:n≠⟨0,0,0⟩):∃d,d≠(⟨0,0,0⟩:V3)/\dot n d=0:=by
 by_cases h:n.x=0/\n.y=0
 ·exact⟨⟨1,0,0⟩,by simp,by unfold dot;simp[h.1]⟩
 ·refine⟨⟨n.y,-n.x,0⟩,λh'=>h ?_,by unfold dot;grind⟩
  simp only[V3.mk.injEq] at h';omega
theorem V3.ext'{a b:V3}(h1:a.x=b.x)(h2:a.y=b.y)(h3:a.z=b.z):a=b:=by cases a;cases b;simp_all
theorem De9{m n d:V3}(hm:m≠⟨0,0,0⟩)(h1:dot m d=0)(h2:dot n d≠0):d8 m n≠⟨0,0,0⟩:=λh=>by
 unfold d8 at h;simp only[V3.mk.injEq] at h;obtain⟨c1,c2,c3⟩:=h;unfold dot at h1 h2;have e1:m.x*(n.x*d.x+n.y*d.y+n.z*d.z)=0:=by grind
 have e2:m.y*(n.x*d.x+n.y*d.y+n.z*d.z)=0:=by grind
 have e3:m.z*(n.x*d.x+n.y*d.y+n.z*d.z)=0:=by grind
 have k:∀{a:Int},a*(n.x*d.x+n.y*d.y+n.z*d.z)=0->a=0:=λh=>(Qkb.1 h).resolve_right h2
 exact hm (V3.ext' (k e1) (k e2) (k e3))
theorem od0(a b:V3):dot a (d8 a b)=0:=by unfold dot d8;grind
theorem od1(a b:V3):dot b (d8 a b)=0:=by unfold dot d8;grind
theorem xf8{p q:Pln}{x:Pt}{d:V3}(h:rmZ p x=0)(h':dot p.n d=0):rmZ p (go x q d)=0:=by rw[De8,h,h'];simp
theorem xf9(q:Pln)(x:Pt)(d:V3):rmZ q (go x q d)=0:=by rw[De8];grind
theorem vg4{q:Pln}{d:V3}(h:0<dot q.n d):q.n≠⟨0,0,0⟩:=λh'=>by rw[h'] at h;unfold dot at h;simp at h
theorem Zf7{a b c u v w:Int}(hu:0<u)(hv:0<v)(hw:0<w)(h1:a*v<=b*u)(h2:b*w<=c*v):a*w<=c*u:=by
 have h3:=Qkab h1 (Qkd hw);have h4:=Qkab h2 (Qkd hu);have e1:a*v*w=a*w*v:=by grind
 have e2:b*u*w=b*w*u:=by grind
 have e3:c*v*u=c*u*v:=by grind
 exact tb3 hv (by omega)
theorem Qe2{r:List Pln}(hb:Bdd r)(h:Pln){x:Pt}(hx:Inr r x):∃v,Cn r v/\rmZ h v*x.pw<=rmZ h x*v.pw:=by
 obtain⟨d0,n0,p0,_⟩:=turn h (d:=⟨1,0,0⟩) (by simp)
 obtain⟨q1,m1,k1,i1⟩:=step hx d0 (hb d0 n0);have l1:=(xf7 (h:=h) (x:=x) (hx.h q1 m1) p0).resolve_right (by have:=hx.w;omega)
 obtain⟨e1,ne1,he1⟩:=Pf6 (vg4 k1);obtain⟨d1,n1,p1,z1⟩:=turn h ne1;obtain⟨q2,m2,k2,i2⟩:=step i1 d1 (hb d1 n1);have l2:=(xf7 (h:=h) (x:=go x q1 d0) (i1.h q2 m2) p1).resolve_right (by have:=i1.w;omega)
 have hc:=De9 (vg4 k1) (z1 _ he1) (n:=q2.n) (by omega)
 obtain⟨d2,n2,p2,z2⟩:=turn h hc;obtain⟨q3,m3,k3,i3⟩:=step i2 d2 (hb d2 n2);have l3:=(xf7 (h:=h) (x:=go (go x q1 d0) q2 d1) (i2.h q3 m3) p2).resolve_right (by have:=i2.w;omega)
 have a1:rmZ q1 (go (go x q1 d0) q2 d1)=0:=xf8 (xf9 _ _ _) (z1 _ he1);refine⟨_,⟨i3,q3,q1,q2,m3,m1,m2,λh0=>?_,xf9 _ _ _,xf8 a1 (z2 _ (od0 _ _)),xf8 (xf9 _ _ _) (z2 _ (od1 _ _))⟩,?_⟩
 ·have:dot q3.n d2=0:=z2 _ h0
  omega
 ·exact Zf7 i3.w i2.w hx.w l3 (Zf7 i2.w i1.w hx.w l2 l1)
theorem Ia1{r:List Pln}(hb:Bdd r){h:Pln}(hv:∀v,Cn r v->0<=rmZ h v){x:Pt}(hx:Inr r x):0<=rmZ h x:=by
 obtain⟨v,h1,h2⟩:=Qe2 hb h hx;have h3:=Qkf (hv v h1) (Qkd hx.w);exact tb3 h1.w (by rw[Qkad];omega)
def mid(x y:Pt):Pt:=⟨x.px*y.pw+y.px*x.pw,x.py*y.pw+y.py*x.pw,x.pz*y.pw+y.pz*x.pw,2*(x.pw*y.pw)⟩
theorem yf0(p:Pln)(x y:Pt):rmZ p (mid x y)=rmZ p x*y.pw+rmZ p y*x.pw:=by unfold rmZ mid;grind
theorem Inr.mid{r:List Pln}{x y:Pt}(hx:Inr r x)(hy:Inr r y):Inr r (mid x y):=⟨by unfold Ce.mid;exact Qkv (by decide) (Qkv hx.w hy.w),λp hp=>by
 rw[yf0];exact Int.add_nonneg (Qkf (hx.h p hp) (Qkd hy.w)) (Qkf (hy.h p hp) (Qkd hx.w))⟩
def Qe3(r:List Pln):Prop:=∃x:Pt,0<x.pw/\∀p∈r,0<rmZ p x
theorem Ze0{r:List Pln}:∀(l:List Pln),(∀p∈l,p∈r)->(∃x,Inr r x)->(∀p∈l,∃v,Inr r v/\0<rmZ p v)->∃x,Inr r x/\∀p∈l,0<rmZ p x
 |[],_,h,_=>by obtain⟨x,h⟩:=h;exact⟨x,h,λp hp=>by cases hp⟩
 |a::l,hl,h,hv=>by
  obtain⟨x,h1,h2⟩:=Ze0 l (λp hp=>hl p (Qkc _ hp)) h (λp hp=>hv p (Qkc _ hp))
  obtain⟨y,h3,h4⟩:=hv a Qkg;refine⟨mid x y,h1.mid h3,λp hp=>?_⟩
  rw[yf0]
  rcases Qka.1 hp with rfl|hp
  ·have:=Qkf (h1.h p (hl p Qkg)) (Qkd h3.w)
   have:=Qkv h4 h1.w
   omega
  ·have:=Qkv (h2 p hp) h3.w
   have:=Qkf (h3.h p (hl p (Qkc _ hp))) (Qkd h1.w)
   omega
theorem yf1{r:List Pln}(hb:Bdd r)(h0:r≠[]):Qe3 r↔∀p∈r,∃v,Cn r v/\0<rmZ p v:=by
 constructor
 ·intro ⟨x,hw,hx⟩ p hp;by_cases h:∃v,Cn r v/\0<rmZ p v
  ·exact h
  ·have hx':Inr r x:=⟨hw,λq hq=>Qkd (hx q hq)⟩
   have:=Ia1 hb (h:=ba4 p) (λv hv=>by
    rw[Ob9]
    have:¬ 0<rmZ p v:=λh'=>h ⟨v,hv,h'⟩
    omega) hx'
   rw[Ob9] at this
   have:=hx p hp
   omega
 ·intro h;obtain⟨p,hp⟩:=List.exists_mem_of_ne_nil r h0;obtain⟨v,hv,_⟩:=h p hp;obtain⟨x,h1,h2⟩:=Ze0 r (λ_ h=>h) ⟨v,hv.toInr⟩ λp hp=>by
   obtain⟨v,hv,h⟩:=h p hp;exact⟨v,hv.toInr,h⟩
  exact⟨x,h1.w,h2⟩
structure Eqv(x v:Pt):Prop where
 e1:x.px*v.pw=v.px*x.pw
 e2:x.py*v.pw=v.py*x.pw
 e3:x.pz*v.pw=v.pz*x.pw
theorem Eqv.rm{x v:Pt}(h:Eqv x v)(p:Pln):rmZ p x*v.pw=rmZ p v*x.pw:=by
 obtain⟨e1,e2,e3⟩:=h;unfold rmZ
 grind
theorem Eqv.inr{r:List Pln}{x v:Pt}(h:Eqv x v)(hw:0<x.pw)(hv:Inr r v):Inr r x:=⟨hw,λp hp=>by
 have:=h.rm p
 have h2:=Qkf (hv.h p hp) (Qkd hw);exact tb3 hv.w (by rw[Qkad];omega)⟩
end Go.Ev.Ce
namespace Go.Ev.Ce
open Go Go.Ev Go.Ev.L Go.Proofs
theorem hf6{p:Pln}{x:Pt}(hp:Bd p)(hx:Okx x):rm p x=rmZ p x:=by
 unfold rm rmZ;obtain⟨w1,w2,⟨a1,a2⟩,⟨a3,a4⟩,a5,a6⟩:=hx;have h0:=mb hp.b1 hp.b2 (show -600000000000<=x.pw by omega) w2
 have h1:=mb hp.x1 hp.x2 a1 a2;have h2:=mb hp.y1 hp.y2 a3 a4;have h3:=mb hp.z1 hp.z2 a5 a6;exact E4 (by omega) (by omega)
theorem Ze1{r:List Pln}(hb:Bds r){x:Pt}(hx:Okx x):inn r x=true↔Inr r x:=by
 unfold inn;rw[Qkm];constructor
 ·intro h;refine⟨hx.w1,λp hp=>?_⟩
  have:=h p hp
  rw[hf6 (hb p hp) hx] at this;simpa using this
 ·intro h p hp;rw[hf6 (hb p hp) hx];simpa using h.h p hp
theorem Zf8{p q s:Pln}(h:(mpt p q s).2=true):mw p q s≠0/\∃k:Int,k≠0/\k*(mpt p q s).1.px=(mv p q s).x/\k*(mpt p q s).1.py=(mv p q s).y/\k*(mpt p q s).1.pz=(mv p q s).z/\k*(mpt p q s).1.pw=mw p q s:=by
 unfold mpt at h ⊢;by_cases h0:mw p q s=0
 ·rw[if_pos h0] at h;cases h
 refine⟨h0,?_⟩;have hg:=Jd9 (v:=mv p q s) h0;have dv:∀{x:Int},(gc (mv p q s) (mw p q s))∣x->gc (mv p q s) (mw p q s)*Int.tdiv x (gc (mv p q s) (mw p q s))=x:=λh=>Qkae h
 have d1:gc (mv p q s) (mw p q s)∣(mv p q s).x:=by
  rw[<- Qkai];exact Qks.2 (Qkw (Qkn _ _) (Qkn _ _))
 have d2:gc (mv p q s) (mw p q s)∣(mv p q s).y:=by
  rw[<- Qkai];exact Qks.2 (Qkw (Qkn _ _) (Qko _ _))
 have d3:gc (mv p q s) (mw p q s)∣(mv p q s).z:=by
  rw[<- Qkai];exact Qks.2 (Qkw (Qko _ _) (Qkn _ _))
 have d4:gc (mv p q s) (mw p q s)∣mw p q s:=by
  rw[<- Qkai];exact Qks.2 (Qkw (Qko _ _) (Qko _ _))
 rw[if_neg h0];by_cases h1:mw p q s<0
 ·rw[if_pos h1];have e:∀{x:Int},(gc (mv p q s) (mw p q s))∣x->-(gc (mv p q s) (mw p q s))*Int.tdiv (-x) (gc (mv p q s) (mw p q s))=x:=λ{x} h=>by
   rw[Qkav,dv ((Int.dvd_neg).2 h),Int.neg_neg]
  exact⟨-(gc (mv p q s) (mw p q s)),by omega,e d1,e d2,e d3,e d4⟩
 ·rw[if_neg h1];exact⟨gc (mv p q s) (mw p q s),by omega,dv d1,dv d2,dv d3,dv d4⟩
theorem yf2{p q s:Pln}(h:(mpt p q s).2=true):rmZ p (mpt p q s).1=0/\rmZ q (mpt p q s).1=0/\rmZ s (mpt p q s).1=0:=by
 obtain⟨_,k,hk,e1,e2,e3,e4⟩:=Zf8 h;generalize (mpt p q s).1=x at *
 have f:∀a:Pln,a.b*mw p q s-(a.n.x*(mv p q s).x+a.n.y*(mv p q s).y+a.n.z*(mv p q s).z)=0->rmZ a x=0:=λa ha=>by
  rw[<- e1,<- e2,<- e3,<- e4] at ha
  have:k*rmZ a x=0:=by rw[<- ha];unfold rmZ;grind
  exact (Qkb.1 this).resolve_left hk
 refine⟨f p ?_,f q ?_,f s ?_⟩<;>(simp only[mw,mv,dot,d8];grind)
theorem Pf7{p q s:Pln}(h:mw p q s≠0):(mpt p q s).2=true:=by
 unfold mpt;rw[if_neg h]
 split<;>rfl
theorem yf3{p q s:Pln}{x:Pt}(h1:rmZ p x=0)(h2:rmZ q x=0)(h3:rmZ s x=0):mw p q s*x.px=(mv p q s).x*x.pw/\mw p q s*x.py=(mv p q s).y*x.pw/\mw p q s*x.pz=(mv p q s).z*x.pw:=by
 have i1:(mv p q s).x*x.pw-mw p q s*x.px=(d8 q.n s.n).x*rmZ p x+(d8 s.n p.n).x*rmZ q x+(d8 p.n q.n).x*rmZ s x:=by simp only[mw,mv,dot,d8,rmZ];grind
 have i2:(mv p q s).y*x.pw-mw p q s*x.py=(d8 q.n s.n).y*rmZ p x+(d8 s.n p.n).y*rmZ q x+(d8 p.n q.n).y*rmZ s x:=by simp only[mw,mv,dot,d8,rmZ];grind
 have i3:(mv p q s).z*x.pw-mw p q s*x.pz=(d8 q.n s.n).z*rmZ p x+(d8 s.n p.n).z*rmZ q x+(d8 p.n q.n).z*rmZ s x:=by simp only[mw,mv,dot,d8,rmZ];grind
 rw[h1,h2,h3] at i1 i2 i3;simp only[Qkal,Int.add_zero] at i1 i2 i3;omega
theorem ig1{p q s:Pln}{x v:Pt}(h:mw p q s≠0)(h1:rmZ p x=0)(h2:rmZ q x=0)(h3:rmZ s x=0)(k1:rmZ p v=0)(k2:rmZ q v=0)(k3:rmZ s v=0):Eqv x v:=by
 obtain⟨a1,a2,a3⟩:=yf3 h1 h2 h3;obtain⟨c1,c2,c3⟩:=yf3 k1 k2 k3;have f:∀{a c m:Int},mw p q s*a=m*x.pw->mw p q s*c=m*v.pw->a*v.pw=c*x.pw:=λ{a c m} ha hc=>by
  have:mw p q s*(a*v.pw-c*x.pw)=0:=by grind
  have:=(Qkb.1 this).resolve_left h
  omega
 exact⟨f a1 c1,f a2 c2,f a3 c3⟩
theorem hf7{r:List Pln}{p q:Pln}{out:List Pt}{s:Pln}{x:Pt}(h:x∈out):x∈Ra1 r p q out s:=by
 unfold Ra1;split
 ·exact Qkaf _ h
 ·exact h
theorem Ld9{r:List Pln}{p q:Pln}{x:Pt}:∀{l:List Pln} {out:List Pt},x∈out->x∈Cb2 r p q l out
 |[],_,h=>h
 |s::l,out,h=>Ld9 (l:=l) (out:=Ra1 r p q out s) (hf7 h)
theorem Yc3{r:List Pln}{p:Pln}{x:Pt}:∀{l:List Pln} {out:List Pt},x∈out->x∈lb8 r p l out
 |[],_,h=>h
 |_::l,_,h=>Yc3 (l:=l) (Ld9 h)
theorem Ee0{r:List Pln}{x:Pt}:∀{l:List Pln} {out:List Pt},x∈out->x∈Xc2 r l out
 |[],_,h=>h
 |_::l,_,h=>Ee0 (l:=l) (Yc3 h)
theorem hf8{r:List Pln}{p q:Pln}{out:List Pt}{s:Pln}(h1:(mpt p q s).2=true)(h2:inn r (mpt p q s).1=true):(mpt p q s).1∈Ra1 r p q out s:=by
 unfold Ra1;rw[h1,h2];cases h:xc7 out (mpt p q s).1 with
 |true=>simpa using (tf7 _ _).1 h
 |false=>simp
theorem Md0{r:List Pln}{p q s:Pln}(h1:(mpt p q s).2=true)(h2:inn r (mpt p q s).1=true):∀{l:List Pln} {out:List Pt},s∈l->(mpt p q s).1∈Cb2 r p q l out
 |[],_,h=>by cases h
 |t::l,out,h=>by
  show _∈Cb2 r p q l (Ra1 r p q out t)
  rcases Qka.1 h with rfl|h
  ·exact Ld9 (hf8 h1 h2)
  ·exact Md0 h1 h2 h
structure Hit(r:List Pln)(Q:Pt->Prop)(p q s:Pln):Prop where
 h1:(mpt p q s).2=true
 h2:inn r (mpt p q s).1=true
 h3:Q (mpt p q s).1
theorem Ee1{r:List Pln}{Q:Pt->Prop}{p q s:Pln}(hq:Hit r Q p q s)(hs:Hit r Q p s q)(hne:q≠s):∀{l:List Pln} {out:List Pt},q∈l->s∈l->∃x∈lb8 r p l out,Q x
 |[],_,h,_=>by cases h
 |t::l,out,hql,hsl=>by
  show ∃x∈lb8 r p l (Cb2 r p t l out),Q x
  rcases Qka.1 hql with rfl|h1
  ·have h2:=(Qka.1 hsl).resolve_left λh=>hne h.symm
   exact⟨_,Yc3 (Md0 hq.h1 hq.h2 h2),hq.h3⟩
  ·rcases Qka.1 hsl with rfl|h2
   ·exact⟨_,Yc3 (Md0 hs.h1 hs.h2 h1),hs.h3⟩
   ·exact Ee1 hq hs hne (l:=l) h1 h2
theorem Ee2 {r : List Pln} {Q : Pt → Prop} {p q s : Pln} (H : ∀ a c d, (a = p ∨ a = q ∨ a = s) → (c = p ∨ c = q ∨ c = s) → (d = p ∨ d = q ∨ d = s) → a ≠ c → c ≠ d → a ≠ d → Hit r Q a c d) (h1 : p ≠ q) (h2 : q ≠ s) (h3 : p ≠ s) :
  ∀{l:List Pln} {out:List Pt},p∈l->q∈l->s∈l->∃x∈Xc2 r l out,Q x
 |[],_,h,_,_=>by cases h
 |t::l,out,hp,hq,hs=>by
  have fin:∀{a c d:Pln} {out:List Pt},(a=p\/a=q\/a=s)->(c=p\/c=q\/c=s)->(d=p\/d=q\/d=s)->a≠c->c≠d->a≠d->c∈l->d∈l->∃x∈Xc2 r l (lb8 r a l out),Q x:=λha hc hd n1 n2 n3 m1 m2=>by
   obtain⟨x,hx,hQ⟩:=Ee1 (H _ _ _ ha hc hd n1 n2 n3) (H _ _ _ ha hd hc n3 n2.symm n1) n2 (out:=_) m1 m2;exact⟨x,Ee0 hx,hQ⟩
  show ∃x∈Xc2 r l (lb8 r t l out),Q x
  rcases Qka.1 hp with rfl|hp'
  ·exact fin (.inl rfl) (.inr (.inl rfl)) (.inr (.inr rfl)) h1 h2 h3 ((Qka.1 hq).resolve_left (Ne.symm h1)) ((Qka.1 hs).resolve_left (Ne.symm h3))
  ·rcases Qka.1 hq with rfl|hq'
   ·exact fin (.inr (.inl rfl)) (.inl rfl) (.inr (.inr rfl)) (Ne.symm h1) h3 h2 hp' ((Qka.1 hs).resolve_left (Ne.symm h2))
   ·rcases Qka.1 hs with rfl|hs'
    ·exact fin (.inr (.inr rfl)) (.inl rfl) (.inr (.inl rfl)) (Ne.symm h3) h1 (Ne.symm h2) hp' hq'
    ·exact Ee2 H h1 h2 h3 hp' hq' hs'
theorem vg5{p q s:Pln}(h:mw p q s≠0):p≠q/\q≠s/\p≠s:=by
 refine⟨λe=>h ?_,λe=>h ?_,λe=>h ?_⟩<;>(subst e;simp only[mw,dot,d8];grind)
theorem yf4{r:List Pln}(hb:Bds r):∀x∈cor r,Cn r x:=Ye0 λp hp q hq s hs h hi=>by
 obtain⟨w1,w2,w3,w4,w5⟩:=Pe4 (hb p hp) (hb q hq) (hb s hs) h;obtain⟨e1,e2,e3⟩:=yf2 h;exact⟨(Ze1 hb ⟨w1,w5,w2,w3,w4⟩).1 hi,p,q,s,hp,hq,hs,(Zf8 h).1,e1,e2,e3⟩
theorem ig2{r:List Pln}(hb:Bds r){v:Pt}(hv:Cn r v):∃x∈cor r,Eqv x v:=by
 obtain⟨p,q,s,hp,hq,hs,hw,e1,e2,e3⟩:=hv.c;obtain⟨n1,n2,n3⟩:=vg5 hw;refine Ee2 (λa c d ha hc hd m1 m2 m3=>?_) n1 n2 n3 hp hq hs
 have hm:∀{a},(a=p\/a=q\/a=s)->a∈r/\rmZ a v=0:=λh=>by
  rcases h with rfl|rfl|rfl
  ·exact⟨hp,e1⟩
  ·exact⟨hq,e2⟩
  ·exact⟨hs,e3⟩
 have hw':mw a c d≠0:=by
  have k:mw a c d=mw p q s\/mw a c d=-mw p q s:=by
   rcases ha with rfl|rfl|rfl<;>rcases hc with rfl|rfl|rfl<;>rcases hd with rfl|rfl|rfl<;>first|exact absurd rfl m1|exact absurd rfl m2|exact absurd rfl m3|exact .inl rfl|(left;simp only[mw,dot,d8];grind;done)|(right;simp only[mw,dot,d8];grind;done)
  rcases k with k|k<;>omega
 have h:=Pf7 hw';obtain⟨w1,w2,w3,w4,w5⟩:=Pe4 (hb a (hm ha).1) (hb c (hm hc).1) (hb d (hm hd).1) h;obtain⟨f1,f2,f3⟩:=yf2 h;have he:=ig1 hw' f1 f2 f3 (hm ha).2 (hm hc).2 (hm hd).2;exact⟨h,(Ze1 hb ⟨w1,w5,w2,w3,w4⟩).2 (he.inr w1 hv.toInr),he⟩
theorem Qe4(c:List Pln):Bdd (c++ws):=λd hd=>by
 have k:∀{n:V3} {m:Int},(⟨n,m⟩:Pln)∈ws->0<dot n d->∃p∈c++ws,0<dot p.n d:=λh h'=>⟨_,List.mem_append_right _ h,h'⟩
 by_cases h1:0<d.x
 ·exact k (n:=⟨1,0,0⟩) (m:=24) (by simp[ws]) (by unfold dot;simp;omega)
 by_cases h2:d.x<0
 ·exact k (n:=⟨-1,0,0⟩) (m:=24) (by simp[ws]) (by unfold dot;simp;omega)
 by_cases h3:0<d.y
 ·exact k (n:=⟨0,1,0⟩) (m:=24) (by simp[ws]) (by unfold dot;simp;omega)
 by_cases h4:d.y<0
 ·exact k (n:=⟨0,-1,0⟩) (m:=24) (by simp[ws]) (by unfold dot;simp;omega)
 by_cases h5:0<d.z
 ·exact k (n:=⟨0,0,1⟩) (m:=24) (by simp[ws]) (by unfold dot;simp;omega)
 by_cases h6:d.z<0
 ·exact k (n:=⟨0,0,-1⟩) (m:=24) (by simp[ws]) (by unfold dot;simp;omega)
 exact absurd (V3.ext' (by show d.x=0;omega) (by show d.y=0;omega) (by show d.z=0;omega)) hd
theorem Ze2{r:List Pln}(hb:Bds r){p:Pln}(hp:Bd p):pos (cor r) p=true↔∃v,Cn r v/\0<rmZ p v:=by
 unfold pos;rw[Qkk];constructor
 ·rintro⟨x,hx,h⟩;rw[hf6 hp (wd9 hb x hx)] at h;exact⟨x,yf4 hb x hx,by simpa using h⟩
 ·rintro⟨v,hv,h⟩;obtain⟨x,hx,he⟩:=ig2 hb hv;refine⟨x,hx,?_⟩;rw[hf6 hp (wd9 hb x hx)];have h1:=he.rm p;have h2:=Qkv h (wd9 hb x hx).w1
  have:0<rmZ p x:=Int.lt_of_mul_lt_mul_right (by rw[Qkad];omega:0*v.pw<rmZ p x*v.pw) (Qkd hv.w)
  simpa using this
theorem be9{r:List Pln}(hb:Bds r)(hd:Bdd r)(h0:r≠[]):Vd6 r=true↔Qe3 r:=by
 rw[yf1 hd h0];unfold Vd6;rw[Qkm];exact⟨λh p hp=>(Ze2 hb (hb p hp)).1 (h p hp),λh p hp=>(Ze2 hb (hb p hp)).2 (h p hp)⟩
end Go.Ev.Ce
namespace Go.Ev.Ce
def dv(z v:Pt):V3:=⟨v.px*z.pw-z.px*v.pw,v.py*z.pw-z.py*v.pw,v.pz*z.pw-z.pz*v.pw⟩
def thr(n:V3)(z:Pt):Pln:=⟨⟨z.pw*n.x,z.pw*n.y,z.pw*n.z⟩,n.x*z.px+n.y*z.py+n.z*z.pz⟩
theorem yf5(n:V3)(z x:Pt):rmZ (thr n z) x=-dot n (dv z x):=by simp only[rmZ,thr,dot,dv];grind
theorem yf6{p:Pln}{z v:Pt}(hz:rmZ p z≠0)(hv:rmZ p v=0)(hw:0<v.pw):dv z v≠⟨0,0,0⟩:=λh=>by
 unfold dv at h;simp only[V3.mk.injEq] at h;obtain⟨e1,e2,e3⟩:=h
 have:rmZ p z*v.pw=rmZ p v*z.pw:=by unfold rmZ;grind
 rw[hv,Qkad] at this;exact (Qkb.1 this).elim hz (by omega)
theorem ig3{p:Pln}{z:Pt}(hz:rmZ p z≠0):∀l:List Pt,l.length<=2->(∀v∈l,rmZ p v=0/\0<v.pw)->∃n,n≠(⟨0,0,0⟩:V3)/\∀v∈l,dot n (dv z v)=0
 |[],_,_=>⟨⟨1,0,0⟩,by simp,λv h=>by cases h⟩
 |[v],_,h=>by
  obtain⟨h1,h2⟩:=h v (by simp)
  obtain⟨d,hd,he⟩:=Pf6 (yf6 hz h1 h2);exact⟨d,hd,λu hu=>by rw[List.mem_singleton.1 hu,<- he];unfold dot;grind⟩
 |[v,u],_,h=>by
  obtain⟨h1,h2⟩:=h v (by simp)
  by_cases hc:d8 (dv z v) (dv z u)=⟨0,0,0⟩
  ·obtain⟨d,hd,he⟩:=Pf6 (yf6 hz h1 h2);have hu:dot (dv z u) d=0:=by
    by_cases h0:dot (dv z u) d=0
    ·exact h0
    ·exact absurd hc (De9 (yf6 hz h1 h2) he h0)
   refine⟨d,hd,λx hx=>?_⟩
   simp only[Qka,Qkag,or_false] at hx
   rcases hx with rfl|rfl
   ·rw[<- he];unfold dot;grind
   ·rw[<- hu];unfold dot;grind
  ·refine⟨_,hc,λx hx=>?_⟩
   simp only[Qka,Qkag,or_false] at hx
   rcases hx with rfl|rfl
   ·rw[<- od0 (dv z x) (dv z u)];unfold dot;grind
   ·rw[<- od1 (dv z v) (dv z x)];unfold dot;grind
 |_::_::_::_,h,_=>by simp at h
def ig4(p:Pln)(z v:Pt):Pt:=⟨rmZ p v*z.px-rmZ p z*v.px,rmZ p v*z.py-rmZ p z*v.py,rmZ p v*z.pz-rmZ p z*v.pz,rmZ p v*z.pw-rmZ p z*v.pw⟩
theorem ne3(p q:Pln)(z v:Pt):rmZ q (ig4 p z v)=rmZ p v*rmZ q z-rmZ p z*rmZ q v:=by
 generalize ha:rmZ p v=a;generalize hb:rmZ p z=c;simp only[rmZ,ig4] at *
 rw[ha,hb]
 grind
theorem yf7{r:List Pln}(hb:Bdd r)(hB:Qe3 r){h:Pln}(hn:h.n≠⟨0,0,0⟩):¬ ∀x,Inr r x->rmZ h x=0:=λH=>by
 obtain⟨x,hw,hx⟩:=hB;have hi:Inr r x:=⟨hw,λp hp=>Qkd (hx p hp)⟩
 obtain⟨q,hq,h1,h2⟩:=step hi h.n (hb h.n hn);have h3:=H _ h2;rw[De8,H _ hi] at h3;have h4:=hx q hq;have h5:0<dot h.n h.n:=by
  have k:∀a:Int,a≠0->0<a*a:=λa ha=>by
   rcases Int.lt_or_gt_of_ne ha with h|h
   ·exact Int.mul_pos_of_neg_of_neg h h
   ·exact Qkv h h
  have k0:∀a:Int,0<=a*a:=λa=>by
   by_cases h:a=0
   ·subst h;decide
   ·exact Qkd (k a h)
  have a1:=k0 h.n.x;have a2:=k0 h.n.y;have a3:=k0 h.n.z;unfold dot;by_cases c1:h.n.x=0
  ·by_cases c2:h.n.y=0
   ·have:=k h.n.z (λc3=>hn (V3.ext' c1 c2 c3));omega
   ·have:=k _ c2;omega
  ·have:=k _ c1;omega
 have:=Qkv h4 h5
 omega
theorem vg6 {r r' : List Pln} {p : Pln} (hb : Bdd r) (hB : Qe3 r) (hp : p ∈ r) (hr : ∀ q ∈ r, q ∈ r' ∨ q = p)
  (l:List Pt) (hl:l.length<=2) (hl0:∀v∈l,rmZ p v=0/\0<v.pw) (hc:∀v,Cn r v->rmZ p v=0->∃x∈l,Eqv x v) {z:Pt} (hz:Inr r' z):Inr r z:=by
 by_cases h0:0<=rmZ p z
 ·exact⟨hz.w,λq hq=>(hr q hq).elim (hz.h q) λe=>e ▸ h0⟩
 exfalso;have hneg:rmZ p z<0:=by omega
 obtain⟨n,hn,hv⟩:=ig3 (p:=p) (z:=z) (by omega) l hl hl0
 have hn':(thr n z).n≠⟨0,0,0⟩:=λe=>hn (by
  unfold thr at e;simp only[V3.mk.injEq] at e;have k:∀{a:Int},z.pw*a=0->a=0:=λh=>(Qkb.1 h).resolve_left (by have:=hz.w;omega)
  exact V3.ext' (k e.1) (k e.2.1) (k e.2.2))
 -- the face lies in that plane
 have hface:∀u,Inr r u->rmZ p u=0->rmZ (thr n z) u=0:=λu hu hu0=>by
  have hbd:Bdd (ba4 p::r):=λd hd=>by
   obtain⟨q,hq,h⟩:=hb d hd;exact⟨q,Qkc _ hq,h⟩
  have hiu:Inr (ba4 p::r) u:=⟨hu.w,λq hq=>by
   rcases Qka.1 hq with rfl|hq
   ·rw[Ob9,hu0];decide
   ·exact hu.h q hq⟩
  have hvx:∀v,Cn (ba4 p::r) v->rmZ (thr n z) v=0:=λv hcv=>by
   have hir:Inr r v:=⟨hcv.w,λq hq=>hcv.h q (Qkc _ hq)⟩
   have hp0:rmZ p v=0:=by
    have h1:=hcv.h (ba4 p) Qkg;rw[Ob9] at h1;have h2:=hir.h p hp;omega
   obtain⟨a,c,d,ha,hc',hd,hw,e1,e2,e3⟩:=hcv.c
   -- a plane that is turned round gives the same Qe2
   have fl:∀{a c d:Pln},mw (ba4 a) c d=-mw a c d/\mw c (ba4 a) d=-mw c a d/\mw c d (ba4 a)=-mw c d a:=λ{a c d}=>by
    refine⟨?_,?_,?_⟩<;>(simp only[mw,dot,d8,ba4];grind)
   have hr0:∀{a:Pln},rmZ (ba4 a) v=0->rmZ a v=0:=λh=>by rw[Ob9] at h;omega
   have hcn:Cn r v:=by
    refine⟨hir,?_⟩
    rcases Qka.1 ha with rfl|ha<;>rcases Qka.1 hc' with rfl|hc'<;>rcases Qka.1 hd with rfl|hd
    ·exact absurd (by simp only[mw,dot,d8];grind) hw
    ·exact absurd (by simp only[mw,dot,d8];grind) hw
    ·exact absurd (by simp only[mw,dot,d8];grind) hw
    ·exact⟨p,c,d,hp,hc',hd,by have:=(fl (a:=p) (c:=c) (d:=d)).1;omega,hp0,e2,e3⟩
    ·exact absurd (by simp only[mw,dot,d8];grind) hw
    ·exact⟨a,p,d,ha,hp,hd,by have:=(fl (a:=p) (c:=a) (d:=d)).2.1;omega,e1,hp0,e3⟩
    ·exact⟨a,c,p,ha,hc',hp,by have:=(fl (a:=p) (c:=a) (d:=c)).2.2;omega,e1,e2,hp0⟩
    ·exact⟨a,c,d,ha,hc',hd,hw,e1,e2,e3⟩
   obtain⟨x,hx,he⟩:=hc v hcn hp0;have h1:=he.rm (thr n z);rw[yf5 n z x,hv x hx] at h1;have h1:rmZ (thr n z) v*x.pw=0:=by omega
   exact (Qkb.1 h1).resolve_right (by have:=(hl0 x hx).2;omega)
  have a1:=Ia1 hbd (h:=thr n z) (λv hv=>by rw[hvx v hv];decide) hiu
  have a2:=Ia1 hbd (h:=ba4 (thr n z)) (λv hv=>by rw[Ob9,hvx v hv];decide) hiu
  rw[Ob9] at a2;omega
 -- so do all vertices
 have hall:∀v,Inr r v->rmZ (thr n z) v=0:=λv hi=>by
  by_cases hv0:rmZ p v=0
  ·exact hface v hi hv0
  have hvp:0<rmZ p v:=by have:=hi.h p hp;omega
  have hu:Inr r (ig4 p z v):=by
   have w1:=Qkv hvp hz.w;have w2:rmZ p z*v.pw<0:=Int.mul_neg_of_neg_of_pos hneg hi.w;refine⟨by show 0<rmZ p v*z.pw-rmZ p z*v.pw;omega,λq hq=>?_⟩
   rw[ne3]
   rcases hr q hq with h|rfl
   ·have b1:=Qkf (Qkd hvp) (hz.h q h);have b2:rmZ p z*rmZ q v<=0:=Int.mul_nonpos_of_nonpos_of_nonneg (Qkd hneg) (hi.h q hq);omega
   ·have:=Int.mul_comm (rmZ q v) (rmZ q z);omega
  have h1:=hface _ hu (by rw[ne3];have:=Int.mul_comm (rmZ p v) (rmZ p z);omega)
  rw[ne3] at h1;have h2:rmZ (thr n z) z=0:=by rw[yf5];simp only[dot,dv];grind
  rw[h2] at h1;have h1:rmZ p z*rmZ (thr n z) v=0:=by omega
  exact (Qkb.1 h1).resolve_left (by omega)
 exact yf7 hb hB hn' hall
end Go.Ev.Ce
namespace Go.Ev.Ce
open Go Go.Ev Go.Ev.L Go.Proofs
theorem Pf8(x:List Pln)(y:Pln):Rb2 x y≠[]:=by
 intro h
 have:=(fc1 y y x).2 (.inl rfl)
 rw[h] at this;cases this
theorem fc2(y:Pln):∀x:List Pln,(Rb2 x y).length<=x.length+1
 |[]=>Qkt _
 |a::l=>by
  have:=fc2 y l
  unfold Rb2;split
  ·simp only[List.length_cons];omega
  ·split<;>simp only[List.length_cons]<;>omega
def phP(out:List Pln):Nat:=match out with
 |[]=>0
 |_::_=>1
def fa8(p:Pln)(v:V3):Int:=if okp p&&inV v then (if dot p.n v-p.b<0 then -1 else if dot p.n v-p.b>0 then 1 else 0) else 0
theorem ne4{p:Pln}{v:V3}(hp:Bd p)(hv:inV v=true):Sm 331776 (dot p.n v):=by
 obtain⟨⟨a1,a2⟩,⟨a3,a4⟩,a5,a6⟩:=(cb0 v).1 hv;have r1:=mb hp.x1 hp.x2 a1 a2;have r2:=mb hp.y1 hp.y2 a3 a4;have r3:=mb hp.z1 hp.z2 a5 a6;unfold Sm dot;omega
theorem Pf9(p:Pln)(v:V3):db1 p v=some (i (fa8 p v),[]):=by
 unfold db1 fa8;simp only[Ce3,Kd5,Ye3,De5];cases hp:okp p with
 |false=>rfl
 |true =>
  cases hv:inV v with
  |false=>rfl
  |true =>
   have hb:=lb6 hp;have hd:=ne4 hb hv;have e:Ia8 p.n v=dot p.n v:=by
    unfold Ia8;simp only[Va9,pb8];exact za8 (hd.mono (by omega))
   have e2:W (dot p.n v-p.b)=dot p.n v-p.b:=E4 (by have:=hd.1;have:=hb.b2;omega) (by have:=hd.2;have:=hb.b1;omega)
   rw[e,e2];by_cases h1:dot p.n v-p.b<0
   ·simp only[Qkr,if_true,h1,decide_true];rfl
   ·by_cases h2:dot p.n v-p.b>0
    ·simp only[Qkr,if_true,h1,h2,decide_true,decide_false,if_false];rfl
    ·simp only[Qkr,if_true,h1,h2,decide_false,if_false];rfl
theorem yf8(p:Pln)(v:V3):pb3 p v=fa8 p v:=by unfold pb3;rw[Pf9];rfl
theorem Md1{p:Pln}{v:V3}(hp:okp p=true)(hv:inV v=true):fa8 p v>0↔dot p.n v>p.b:=by
 unfold fa8;rw[hp,hv];simp only[Qkr,if_true];split
 ·omega
 ·split<;>omega
theorem Bc8{p:Pln}{v:V3}(hp:okp p=true)(hv:inV v=true):fa8 p v=0↔dot p.n v=p.b:=by
 unfold fa8;rw[hp,hv];simp only[Qkr,if_true];split
 ·omega
 ·split<;>omega
theorem ig5(v:V3):g3 v∣v.x/\g3 v∣v.y/\g3 v∣v.z:=by
 unfold g3;refine⟨?_,?_,?_⟩<;>rw[<- Qkai]<;>apply Qks.2
 ·exact Qkw (Qkn _ _) (Qkn _ _)
 ·exact Qkw (Qkn _ _) (Qko _ _)
 ·exact Qko _ _
theorem ig6(v:V3)(h:g3 v≠0):g3 ⟨Int.tdiv v.x (g3 v),Int.tdiv v.y (g3 v),Int.tdiv v.z (g3 v)⟩=1:=by
 generalize hg:g3 v=g at *
 have h0:0<=g:=hg ▸ Bc7 v;obtain⟨n,rfl⟩:∃n:Nat,g=n:=⟨g.toNat,by omega⟩
 have hn:0<n:=by omega
 have hgn:Nat.gcd (Nat.gcd v.x.natAbs v.y.natAbs) v.z.natAbs=n:=by unfold g3 at hg;omega
 have d1:n∣Nat.gcd v.x.natAbs v.y.natAbs:=hgn ▸ Qkn _ _;have d3:n∣v.z.natAbs:=hgn ▸ Qko _ _;have d4:n∣v.x.natAbs:=Qkw d1 (Qkn _ _);have d5:n∣v.y.natAbs:=Qkw d1 (Qko _ _);unfold g3;simp only[Int.natAbs_tdiv,Int.natAbs_natCast];show ((Nat.gcd (Nat.gcd (v.x.natAbs / n) (v.y.natAbs / n)) (v.z.natAbs / n):Nat):Int)=1;rw[Nat.gcd_div d4 d5,Nat.gcd_div d1 d3,hgn,Nat.div_self hn];rfl
structure Thr(a b c:V3)(p:Pln):Prop where
 ok:okp p=true
 k:∃g:Int,0<g/\g*p.n.x=(d8 (sub b a) (sub c a)).x/\g*p.n.y=(d8 (sub b a) (sub c a)).y/\g*p.n.z=(d8 (sub b a) (sub c a)).z
 o:p.b=dot p.n a
theorem oa5{a b c:V3}(h:(A6 a b c).2=true):(inV a=true/\inV b=true/\inV c=true)/\Thr a b c (A6 a b c).1:=by
 unfold A6 at h ⊢;cases ha:inV a with
 |false=>rw[ha] at h;cases h
 |true =>
  cases hb:inV b with
  |false=>rw[ha,hb] at h;cases h
  |true =>
   cases hc:inV c with
   |false=>rw[ha,hb,hc] at h;cases h
   |true =>
    rw[ha,hb,hc] at h;simp only[Qkr,if_true] at h ⊢;obtain⟨_,k1,k2,k3⟩:=Zb6 ha hb hc;generalize hn:d8 (sub b a) (sub c a)=n at *
    by_cases h0:g3 n=0
    ·rw[if_pos h0] at h;cases h
    ·rw[if_neg h0];have hp:=Bc7 n;obtain⟨d1,d2,d3⟩:=ig5 n;have q1:=E6 (g:=g3 n) k1 (by omega)
     have q2:=E6 (g:=g3 n) k2 (by omega)
     have q3:=E6 (g:=g3 n) k3 (by omega)
     refine⟨⟨trivial,trivial,trivial⟩,⟨?_,⟨g3 n,by omega,by rw[hn];exact Qkae d1,by rw[hn];exact Qkae d2,by rw[hn];exact Qkae d3⟩,rfl⟩⟩
     obtain⟨⟨a1,a2⟩,⟨a3,a4⟩,a5,a6⟩:=(cb0 a).1 ha;have r1:=mb q1.1 q1.2 a1 a2;have r2:=mb q2.1 q2.2 a3 a4;have r3:=mb q3.1 q3.2 a5 a6;unfold okp;rw[ig6 n h0];simp only[List.all_cons,List.all_nil,Qkh,Qkp,Ta6,beq_self_eq_true,true_and,and_true];refine⟨⟨q1,q2,q3⟩,?_⟩;unfold Sm dot
     simp only
     omega
theorem Ze3(a b c:V3):Bd (A6 a b c).1:=by
 cases h:(A6 a b c).2 with
 |true=>exact lb6 (oa5 h).2.ok
 |false =>
  have:(A6 a b c).1=⟨⟨0,0,0⟩,0⟩:=by
   unfold A6 at h ⊢;split
   ·rename_i hc;rw[if_pos hc] at h;split
    ·rfl
    ·rename_i h0;rw[if_neg h0] at h;cases h
   ·rfl
  rw[this]
  constructor<;>simp
theorem yf9{p:Pln}(h:Bd p):pb2 p=ba4 p:=by
 unfold pb2 Sa5 ba4
 simp only
 have:=h.x1;have:=h.x2;have:=h.y1;have:=h.y2;have:=h.z1;have:=h.z2;have:=h.b1;have:=h.b2
 rw[E4 (by omega) (by omega),E4 (by omega) (by omega),E4 (by omega) (by omega),E4 (by omega) (by omega)]
 simp only[Int.zero_sub]
theorem yc3{p:Pln}(h:okp p=true):okp (ba4 p)=true:=by
 unfold okp ba4 g3 at *
 simp only[List.all_cons,List.all_nil,Qkh,Qkp,Ta6,Int.natAbs_neg] at h ⊢;obtain⟨⟨h1,h2,h3⟩,h4,h5⟩:=h;exact⟨⟨h1.neg,h2.neg,h3.neg⟩,h4,h5.neg⟩
def zf0(l:List V3)(p:Pln):Bool:=l.any λv=>fa8 p v != 0
def nf(l:List V3)(a c k:Nat):Bool:=(A6 (gL tV l a) (gL tV l c) (gL tV l k)).2&&zf0 l (A6 (gL tV l a) (gL tV l c) (gL tV l k)).1
def nf2(l:List V3)(a c:Nat):Bool:=(List.range c).any (nf l a c)
def nf1(l:List V3)(a:Nat):Bool:=(List.range a).any (nf2 l a)
def nf0(l:List V3):Bool:=(List.range l.length).any (nf1 l)
theorem Md2 {σ : Type} {step : σ → Stp σ} {mk : Nat → σ} (n : Nat) (c : Nat → Bool) (u fin : Nat) (hn : n ≤ 1000000000) (h : ∀ j, j < n → step (mk j) = sl (c j) (.exit u) (.next (mk (j + 1)))) (hf : step (mk n) = .exit fin) :
  ∃j,lp step (mk 0)=(if (List.range n).any c then u else fin,mk j):=by
 have key:=P5 (step:=step) (mk:=λj (_:Unit)=>mk j) n (λj _=>j<=n/\∀i,i<j->c i=false) (λt s=>t=(if (List.range n).any c then u else fin)/\∃j,s=mk j) hn
  (λj _ hj hi=>by
   rw[h j hj];refine Nx.sl (λhc=>.ex ⟨?_,j,rfl⟩) (λhc=>.nx ⟨(),rfl,by omega,λi hi'=>?_⟩)
   ·rw[if_pos (Qkk.2 ⟨j,Qkaw.2 hj,hc⟩)]
   ·by_cases e:i=j
    ·rw[e];exact hc
    ·exact hi.2 i (by omega))
  (λj _ hj hi=>by
   have e:j=n:=by omega
   subst e;refine⟨fin,hf,?_,j,rfl⟩;rw[if_neg λhh=>?_]
   obtain⟨i,hi1,hi2⟩:=Qkk.1 hh;rw[hi.2 i (Qkaw.1 hi1)] at hi2;cases hi2) 0 () ⟨by omega,by omega⟩
 obtain⟨t,s,h1,rfl,j,rfl⟩:=key;exact⟨j,h1⟩
theorem zf1(l:List V3)(x1 x2 x3:Int)(okb:Bool)(p:Pln)(hl:l.length<=1000000000):∃t s,lp (E0 ⟨l,x1,x2,x3,okb,p.n.x,p.n.y,p.n.z,p.b⟩) ⟨0⟩=(t,s)/\(((okb&&zf0 l p)=true/\t=1)\/((okb&&zf0 l p)=false/\(t=2\/t=3))):=by
 cases okb with
 |false =>
  cases l with
  |nil =>
   refine⟨3,⟨0⟩,?_,.inr ⟨rfl,.inr rfl⟩⟩;exact Ye9 (step:=E0 ⟨[],x1,x2,x3,false,p.n.x,p.n.y,p.n.z,p.b⟩) rfl
  |cons v l =>
   refine⟨2,⟨0⟩,?_,.inr ⟨rfl,.inl rfl⟩⟩;refine Ye9 (step:=E0 ⟨v::l,x1,x2,x3,false,p.n.x,p.n.y,p.n.z,p.b⟩) ?_;simp only[E0,ga8];rw[btD (by simp only[List.length_cons];omega)]
   rfl
 |true =>
  have h:=kb8 (step:=E0 ⟨l,x1,x2,x3,true,p.n.x,p.n.y,p.n.z,p.b⟩) (mk:=λj=>(⟨(j:Int)⟩:na6)) (c:=λv=>fa8 p v != 0) (u:=1) (fin:=3) tV l hl
   (λj hj=>by
    simp only[E0,ga8,me8,yf8,Int.toNat_natCast,m9 hj (show l.length<=4611686018427387904 by omega)]
    rw[btD (i8 hj),bt (f9 hj)]
    rfl)
   (by simp only[E0,ga8];rw[bfD (n5 (Qki _))]) 0 (Qku _)
  rw[Qkah] at h;have h:(lp (E0 ⟨l,x1,x2,x3,true,p.n.x,p.n.y,p.n.z,p.b⟩) ⟨0⟩).1=_:=h;cases hlp:lp (E0 ⟨l,x1,x2,x3,true,p.n.x,p.n.y,p.n.z,p.b⟩) ⟨0⟩ with
  |mk t s =>
  rw[hlp] at h;refine⟨t,s,rfl,?_⟩
  simp only at h
  rw[h];unfold zf0;cases hh:l.any λv=>fa8 p v != 0 with
  |true=>exact .inl ⟨rfl,rfl⟩
  |false=>exact .inr ⟨rfl,.inr rfl⟩
theorem zf2(l:List V3)(hl:l.length<=1000000000)(a c:Nat)(ha:a<l.length)(hc:c<a):∃j,lp (W9 ⟨(a:Int),(c:Int)⟩) ⟨l,0⟩=(if nf2 l a c then 1 else 2,⟨l,((j:Nat):Int)⟩) :=
 Md2 (step:=W9 ⟨(a:Int),(c:Int)⟩) (mk:=λj=>(⟨l,(j:Int)⟩:na7)) c (nf l a c) 1 2 (by omega)
  (λj hj=>by
   simp only[W9,ra2,Hb6,Ta7,Int.toNat_natCast,i9,i6,m9 hj (show c<=4611686018427387904 by omega)]
   rw[btD (i8 hj),bt (f9 ha),bt (f9 (show c<l.length by omega)),bt (f9 (show j<l.length by omega)),l9]
   obtain⟨t,s,h1,h2⟩:=zf1 l (a:Int) (c:Int) (j:Int) (A6 (gL tV l a) (gL tV l c) (gL tV l j)).2 (A6 (gL tV l a) (gL tV l c) (gL tV l j)).1 hl;rw[h1];unfold nf
   rcases h2 with⟨e,rfl⟩|⟨e,rfl|rfl⟩<;>rw[e]<;>rfl)
  (by simp only[W9,ra2];rw[bfD (n5 (Qki _))])
theorem zf3(l:List V3)(hl:l.length<=1000000000)(a:Nat)(ha:a<l.length):∃j,lp (X0 ⟨(a:Int)⟩) ⟨l,0⟩=(if nf1 l a then 1 else 2,⟨l,((j:Nat):Int)⟩) :=
 Md2 (step:=X0 ⟨(a:Int)⟩) (mk:=λj=>(⟨l,(j:Int)⟩:na8)) a (nf2 l a) 1 2 (by omega)
  (λj hj=>by
   obtain⟨j',h1⟩:=zf2 l hl a j ha hj;simp only[X0,ra3,i9,i6,m9 hj (show a<=4611686018427387904 by omega)]
   rw[btD (i8 hj),h1];cases nf2 l a j<;>rfl)
  (by simp only[X0,ra3];rw[bfD (n5 (Qki _))])
theorem Qf0(l:List V3)(hl:l.length<=1000000000):db2 l=some (b (!nf0 l),[]):=by
 obtain⟨j,h⟩:=Md2 (step:=X1 ⟨⟩) (mk:=λj=>(⟨l,(j:Int)⟩:na9)) l.length (nf1 l) 1 2 hl
  (λj hj=>by
   obtain⟨j',h1⟩:=zf3 l hl j hj;simp only[X1,ra4,i9,i6,m9 hj (show l.length<=4611686018427387904 by omega)]
   rw[btD (i8 hj),h1];cases nf1 l j<;>rfl)
  (by simp only[X1,ra4];rw[bfD (n5 (Qki _))])
 have h:lp (X1 ⟨⟩) ⟨l,0⟩=(if nf0 l then 1 else 2,⟨l,((j:Nat):Int)⟩):=h
 unfold db2;simp only[i9,i6];rw[h];cases nf0 l<;>rfl
theorem ig7(l:List V3)(hl:l.length<=1000000000):db3 l=!nf0 l:=by unfold db3;rw[Qf0 l hl];rfl
def Oc0(l:List V3):Int:=if (l.length:Int)>48 then 2 else if l.all inV then (if nf0 l then 0 else 11) else 3
theorem Qe5(l:List V3)(hl:l.length<=1000000000):Pa1 l=some (i (Oc0 l),[]):=by
 have h:=kb8 (step:=ga9 ⟨l⟩) (mk:=λj=>(⟨(j:Int)⟩:S4)) (c:=λv=>!inV v) (u:=1) (fin:=2) tV l hl
  (λj hj=>by
   simp only[ga9,la6,Int.toNat_natCast,Ye3,De5,m9 hj (show l.length<=4611686018427387904 by omega)]
   rw[btD (i8 hj),bt (f9 hj),l9])
  (by simp only[ga9,la6];rw[bfD (n5 (Qki _))]) 0 (Qku _)
 rw[Qkah] at h;have e:(l.any λv=>!inV v)=!l.all inV:=by rw[Qkat]
 unfold Pa1 Oc0;simp only[i9,i6,J1,Pe8 l hl,ig7 l hl];rw[show (⟨0⟩:S4)=⟨((0:Nat):Int)⟩ from rfl,h,e]
 by_cases h48:(l.length:Int)>48
 ·rw[if_pos h48,btD h48]
 ·rw[if_neg h48,bfD h48];cases l.all inV with
  |false=>rfl
  |true=>cases nf0 l<;>rfl
theorem hf9(l:List V3)(hl:l.length<=1000000000):wb9 l=Oc0 l:=by unfold wb9;rw[Qe5 l hl];rfl
def hold(p:Pln)(l:List V3):Bool:=!l.any λv=>decide (fa8 p v>0)
theorem zf4(p:Pln)(l:List V3)(hl:l.length<=1000000000):Pa2 p l=some (b (hold p l),[]):=by
 have h:=kb8 (step:=ha0 ⟨l,p.n.x,p.n.y,p.n.z,p.b⟩) (mk:=λj=>(⟨(j:Int)⟩:S5)) (c:=λv=>decide (fa8 p v>0)) (u:=1) (fin:=2) tV l hl
  (λj hj=>by
   simp only[ha0,la7,Int.toNat_natCast,yf8,me8,m9 hj (show l.length<=4611686018427387904 by omega)]
   rw[btD (i8 hj),bt (f9 hj),l9])
  (by simp only[ha0,la7];rw[bfD (n5 (Qki _))]) 0 (Qku _)
 rw[Qkah] at h;unfold Pa2 hold;simp only[i9,i6];rw[show (⟨0⟩:S5)=⟨((0:Nat):Int)⟩ from rfl,h]
 cases l.any λv=>decide (fa8 p v>0)<;>rfl
theorem Qf1(p:Pln)(l:List V3)(hl:l.length<=1000000000):Ca6 p l=hold p l:=by unfold Ca6;rw[zf4 p l hl];rfl
theorem Qe6 (x:List Pln) (y:Pln) (hx:x.length≤1000000):Rd (one (r1L tP)) (pb5 x y) (fun r=>r=ins x y):=by
  have h:=wa3 (step:=fa4 ⟨x,y.n.x,y.n.y,y.n.z,y.b⟩) (mk:=fun j=>(⟨(j:Int)⟩:ha3)) (c:=fun p=>!decide (va9 p y < 0)) (u:=1) (fin:=2) tP x (by omega)
    (fun j hj=>by
      simp only[fa4,ya7,Int.toNat_natCast,wf4,ig0,m9 hj (show x.length<=4611686018427387904 by omega)]
      rw[btD (i8 hj),bt (f9 hj),l9];show sl (decide (va9 (gL tP x j) y<0)) _ _=_;cases decide (va9 (gL tP x j) y<0)<;>rfl)
    (by simp only[fa4,ya7];rw[bfD (n5 (Qki _))]) 0 (Qku _)
  rw[Qkah] at h
  have key:∃ t,lp (fa4 ⟨x,y.n.x,y.n.y,y.n.z,y.b⟩) ⟨0⟩=(t,⟨((atP x y:Nat):Int)⟩)∧(t=1∨t=2):=by
    rw[show (⟨0⟩:ha3)=⟨((0:Nat):Int)⟩ from rfl,h]
    split
    · exact⟨1,by rw[Qkz];rfl,.inl rfl⟩
    · rename_i hn
      refine⟨2,?_,.inr rfl⟩
      have:atP x y=x.length:=by
        unfold atP;rw[List.findIdx_eq_length];intro p hp;cases hb:(!decide (va9 p y<0)) with
        |false=>rfl
        |true=>exact absurd (Qkk.2 ⟨p,hp,hb⟩) hn
      rw[this]
  obtain⟨t,h1,h2⟩:=key;have h3:atP x y<=x.length:=List.findIdx_le_length;have hdef:ins x y=if (atP x y<x.length/\eqP (gL tP x (atP x y)) y=true) then x else pc8 x y (atP x y):=rfl
  generalize atP x y=n at *
  have hlo:inB (n:Int) (x.length+1)=true:=f9 (by omega)
  have hd:(bL tP (x.take n)).length=n:=by rw[<- o3,V2,Qkak];omega
  have hlen:(pc8 x y n).length=x.length+1:=by unfold pc8;simp only[Qke,List.length_cons,Qkak,List.length_drop];omega
  have lt:len (bL tP (x.take n))=n:=by rw[o3];exact hd
  have ld:len (bL tP (x.drop n))=x.length-n:=by rw[V2,List.length_drop]
  have b1:(Nat.beq 1 1&&Nat.ble ((1+(x.length-n))*32) room)=true:=by rw[ja4 (by omega)];rfl
  have b2:(Nat.beq 0 0&&Nat.ble ((0+n)*32) room)=true:=by rw[ja4 (by omega)];rfl
  have e0:app [] (bL tP (x.take n))=bL tP (x.take n):=rfl;have b3:(Nat.beq (0+n) n&&Nat.ble (((0+n)+1)*32) room)=true:=by rw[ja4 (by omega),Qkz,Qkl];rfl
  have l3:len (bL tP (x.take n++[y]))=n+1:=by rw[V2,Qke,Qkak];simp only[List.length_singleton];omega
  have b4:(Nat.beq ((0+n)+1) (n+1)&&Nat.ble ((((0+n)+1)+(x.length-n))*32) room)=true:=by rw[ja4 (by omega),Qkz,Qkl];rfl
  have z0:∀{k:Nat},Nat.beq k 0=true->k=0:=λ{k} h=>Nat.eq_of_beq_eq_true h
  have fin:ins x y=pc8 x y n→∀ m r,m=x.length+1→r=bL tP (pc8 x y n)→Rd (one (r1L tP)) (some (.sl 0 0 m 0,[⟨73,4,r,true,false,0⟩])) (fun r=>r=ins x y) :=
    λhq m r hm hr=>Ld3 (by rw[hlen];exact hm) hr hq.symm
  have tail : ins x y = pc8 x y n → Rd (one (r1L tP)) (sl (Nat.beq n 0) (sl (Nat.beq (x.length - n) 0) (some ((.sl 0 0 1 0), [⟨73, 4, [[(i y.n.x), (i y.n.y), (i y.n.z), (i y.b)]], true, false, 0⟩]))
      (some ((.sl 0 0 (1+(x.length-n)) 0),[⟨73,4,(app [[(i y.n.x),(i y.n.y),(i y.n.z),(i y.b)]] (bL tP (x.drop n))),true,false,0⟩])))
      (sl (Nat.beq (x.length - n) 0) (some ((.sl 0 0 ((0+n)+1) 0),[⟨73,4,bL tP (x.take n++[y]),true,false,0⟩]))
        (some ((.sl 0 0 (((0+n)+1)+(x.length-n)) 0),[⟨73,4,(app (bL tP (x.take n++[y])) (bL tP (x.drop n))),true,false,0⟩])))) (λr=>r=ins x y):=λhq=>by
    refine Rd.sl (λq1=>Rd.sl (λq2=>?_) (λq2=>?_)) (λq1=>Rd.sl (λq2=>?_) (λq2=>?_))
    · have:=z0 q1;have:=z0 q2
      refine fin hq _ _ (by omega) ?_
      have:x=[]:=Qkao (by omega)
      subst this;rw[show n=0 by omega];rfl
    · have:=z0 q1;subst this
      exact fin hq _ _ (by omega) rfl
    · have:=z0 q2
      refine fin hq _ _ (by omega) ?_
      unfold pc8;rw[show x.drop n=[] from List.drop_eq_nil_of_le (by omega)]
    · refine fin hq _ _ (by omega) ?_
      rw[Ka4];unfold pc8;rw[List.append_assoc];rfl
  unfold pb5;simp only[i9,i6];rw[h1];simp only[Int.toNat_natCast,Ld1 x n h3,Ld2,lt,ld,b1,b2,e0,b3,yc0,l3,b4,hlo,l9]
  have main : Rd (one (r1L tP)) (sl (decide ((n : Int) < (x.length : Int))) (sl (inB (n : Int) x.length) (sl (((gL tP x n).n.x == y.n.x) && (((gL tP x n).n.y == y.n.y) && (((gL tP x n).n.z == y.n.z) && (((gL tP x n).b == y.b) && true)))) (some (eL tP x, []))
      (sl (Nat.beq n 0) (sl (Nat.beq (x.length-n) 0) (some (.sl 0 0 1 0,[⟨73,4,[[i y.n.x,i y.n.y,i y.n.z,i y.b]],true,false,0⟩]))
      (some ((.sl 0 0 (1+(x.length-n)) 0),[⟨73,4,(app [[(i y.n.x),(i y.n.y),(i y.n.z),(i y.b)]] (bL tP (x.drop n))),true,false,0⟩])))
      (sl (Nat.beq (x.length - n) 0) (some ((.sl 0 0 ((0+n)+1) 0),[⟨73,4,bL tP (x.take n++[y]),true,false,0⟩]))
        (some ((.sl 0 0 (((0+n)+1)+(x.length-n)) 0),[⟨73,4,(app (bL tP (x.take n++[y])) (bL tP (x.drop n))),true,false,0⟩]))))) none)
      (sl (Nat.beq n 0) (sl (Nat.beq (x.length-n) 0) (some (.sl 0 0 1 0,[⟨73,4,[[i y.n.x,i y.n.y,i y.n.z,i y.b]],true,false,0⟩]))
      (some ((.sl 0 0 (1+(x.length-n)) 0),[⟨73,4,(app [[(i y.n.x),(i y.n.y),(i y.n.z),(i y.b)]] (bL tP (x.drop n))),true,false,0⟩])))
      (sl (Nat.beq (x.length - n) 0) (some ((.sl 0 0 ((0+n)+1) 0),[⟨73,4,bL tP (x.take n++[y]),true,false,0⟩]))
        (some ((.sl 0 0 (((0+n)+1)+(x.length-n)) 0),[⟨73,4,(app (bL tP (x.take n++[y])) (bL tP (x.drop n))),true,false,0⟩]))))) (λr=>r=ins x y):=by
    by_cases hn:n<x.length
    · rw[btD (i8 hn),bt (f9 hn)]
      exact Rd.sl (fun q=>⟨_,x,rfl,Ce9 tP x,by rw[hdef,if_pos ⟨hn,q⟩]⟩) fun q=>tail (by
        rw[hdef,if_neg λh=>?_]
        have h:=h.2;rw[show eqP (gL tP x n) y=false from q] at h
        cases h)
    · rw[bfD (n5 hn)]
      exact tail (by rw[hdef,if_neg λh=>hn h.1])
  rcases h2 with rfl|rfl
  · exact main
  · exact main
theorem zf5(x:List Pln)(y:Pln)(hx:x.length<=1000000):I6 x y=Rb2 x y:=(Qe6 x y hx).p.trans (xf6 y x)
def Ub7 (l:List V3) (a c:Nat) (out:List Pln) (k:Nat):List Pln :=
  if (A6 (gL tV l a) (gL tV l c) (gL tV l k)).2 then
    (if hold (ba4 (A6 (gL tV l a) (gL tV l c) (gL tV l k)).1) l then Rb2 (if hold (A6 (gL tV l a) (gL tV l c) (gL tV l k)).1 l then Rb2 out (A6 (gL tV l a) (gL tV l c) (gL tV l k)).1 else out) (ba4 (A6 (gL tV l a) (gL tV l c) (gL tV l k)).1)
     else (if hold (A6 (gL tV l a) (gL tV l c) (gL tV l k)).1 l then Rb2 out (A6 (gL tV l a) (gL tV l c) (gL tV l k)).1 else out))
  else out
def F2(l:List V3)(a:Nat)(out:List Pln)(c:Nat):List Pln:=(List.range c).foldl (Ub7 l a c) out
def F1(l:List V3)(out:List Pln)(a:Nat):List Pln:=(List.range a).foldl (F2 l a) out
def F0(l:List V3):List Pln:=(List.range l.length).foldl (F1 l) []
theorem Bc9 (x:List Pln) (y:Pln):phP (Rb2 x y)=1:=by
  cases h:Rb2 x y with
  |nil=>exact absurd h (Pf8 _ _)
  |cons _ _=>rfl
theorem jd0 (l:List V3) (a c:Nat) (out:List Pln) (k:Nat):(Ub7 l a c out k).length≤out.length+2:=by
  unfold Ub7;split
  · split
    · refine Nat.le_trans (fc2 _ _) ?_
      split
      · have:=fc2 (A6 (gL tV l a) (gL tV l c) (gL tV l k)).1 out;omega
      · omega
    · split
      · have:=fc2 (A6 (gL tV l a) (gL tV l c) (gL tV l k)).1 out;omega
      · omega
  · omega
theorem o9 {τ:Type} (f:τ→Nat→τ) (a:τ) (n:Nat):(List.range (n+1)).foldl f a=f ((List.range n).foldl f a) n:=by
  rw[List.range_succ,List.foldl_append];rfl
theorem fc3 {f:List Pln→Nat→List Pln} {m:Nat} (h:∀ o k,(f o k).length≤o.length+m) (o:List Pln):∀ n,((List.range n).foldl f o).length≤o.length+m*n
  |0=>Qkt _
  | n+1=>by
    rw[o9];have h1:=h ((List.range n).foldl f o) n;have h2:=fc3 h o n;rw[Nat.mul_succ];omega
theorem vg7 (l : List V3) (hl : l.length ≤ 48) (a c : Nat) (ha : a < l.length) (hc : c < a) (out : List Pln) (ho : out.length ≤ 900000) :
    ∃j,lp (Y5 ⟨l,(a:Int),(c:Int)⟩) ⟨phP out,0,out⟩=(phP (F2 l a out c)+1,⟨phP (F2 l a out c),((j:Nat):Int),F2 l a out c⟩):=by
  have key:=P5 (step:=Y5 ⟨l,(a:Int),(c:Int)⟩) (mk:=fun j (o:List Pln)=>(⟨phP o,(j:Int),o⟩:A4)) c (fun j o=>j≤c∧o=(List.range j).foldl (Ub7 l a c) out) (fun t s=>t=phP (F2 l a out c)+1∧∃ j:Nat,s=⟨phP (F2 l a out c),(j:Int),F2 l a out c⟩) (by omega)
    (fun j o hj hi=>by
      obtain⟨_,hi⟩:=hi
      have hlen:o.length≤990000:=by
        rw[hi]
        have:=fc3 (jd0 l a c) out j
        omega
      have hn:=m9 hj (show c<=4611686018427387904 by omega)
      have hh:∀p,pa1 p l=true:=λp=>Ye5 p l (by omega)
      have hp:∀p,Ca6 p l=hold p l:=λp=>Qf1 p l (by omega)
      have hg1:∀y,ta9 o y=true:=λy=>Ye6 o y (by omega)
      have hq1:∀y,I6 o y=Rb2 o y:=λy=>zf5 o y (by omega)
      have hg2:∀y z,ta9 (Rb2 o y) z=true:=λy z=>Ye6 _ z (by have:=fc2 y o;omega)
      have hq2:∀y z,I6 (Rb2 o y) z=Rb2 (Rb2 o y) z:=λy z=>zf5 _ z (by have:=fc2 y o;omega)
      have hfl:pb2 (A6 (gL tV l a) (gL tV l c) (gL tV l j)).1=ba4 (A6 (gL tV l a) (gL tV l c) (gL tV l j)).1:=yf9 (Ze3 _ _ _)
      have fin : ∀ {s : A4}, s = ⟨phP (Ub7 l a c o j), ((j + 1 : Nat) : Int), Ub7 l a c o j⟩ → Nx (.next s) (fun t => t = phP (F2 l a out c) + 1 ∧ ∃ j' : Nat, (⟨phP o, (j : Int), o⟩ : A4) = ⟨phP (F2 l a out c), (j' : Int), F2 l a out c⟩)
          (λs=>∃o',s=(⟨phP o',((j+1:Nat):Int),o'⟩:A4)/\(j+1<=c/\o'=(List.range (j+1)).foldl (Ub7 l a c) out)):=λ{s} hs =>
        .nx ⟨_,hs,by omega,by rw[o9,<- hi]⟩
      clear hi
      unfold Ub7 at fin;generalize hT:A6 (gL tV l a) (gL tV l c) (gL tV l j)=T at *
      have hb1:inB (a:Int) l.length=true:=f9 ha;have hb2:inB (c:Int) l.length=true:=f9 (by omega)
      have hb3:inB (j:Int) l.length=true:=f9 (by omega)
      cases o with
      | nil =>
        show Nx (J8 Stp.next Stp.exit Stp.fail _ _) _ _;simp only[J8,Hb6,Ta7,Int.toNat_natCast,i9,J1,hT,hh,hp,hfl,hg1,hq1,hg2,hq2,hn,hb1,hb2,hb3];rw[btD (i8 hj)];cases h2:T.2 with
        |false=>exact fin (by rw[h2];rfl)
        | true =>
          cases h3:hold T.1 l with
          | false =>
            cases h4:hold (ba4 T.1) l with
            |false=>exact fin (by rw[h2,h3,h4];rfl)
            |true=>exact fin (by rw[h2,h3,h4];simp only[if_true,if_false,Bc9,Qkq])
          | true =>
            cases h4:hold (ba4 T.1) l with
            |false=>exact fin (by rw[h2,h3,h4];simp only[if_true,if_false,Bc9,Qkq])
            |true=>exact fin (by rw[h2,h3,h4];simp only[if_true,Bc9])
      | cons q o =>
        show Nx (J9 Stp.next Stp.exit Stp.fail _ _) _ _;simp only[J9,Hb6,Ta7,Int.toNat_natCast,i9,J1,hT,hh,hp,hfl,hg1,hq1,hg2,hq2,hn,hb1,hb2,hb3];rw[btD (i8 hj)];cases h2:T.2 with
        |false=>exact fin (by rw[h2];rfl)
        | true =>
          cases h3:hold T.1 l with
          | false =>
            cases h4:hold (ba4 T.1) l with
            |false=>exact fin (by rw[h2,h3,h4];rfl)
            |true=>exact fin (by rw[h2,h3,h4];simp only[if_true,if_false,Bc9,Qkq])
          | true =>
            cases h4:hold (ba4 T.1) l with
            |false=>exact fin (by rw[h2,h3,h4];simp only[if_true,if_false,Bc9,Qkq])
            |true=>exact fin (by rw[h2,h3,h4];simp only[if_true,Bc9]))
    (fun j o hj hi=>by
      obtain⟨h1,hi⟩:=hi;have e:j=c:=by omega
      subst e;have hF:o=F2 l a out j:=hi;rw[<- hF];cases o with
      | nil =>
        refine⟨1,?_,rfl,j,rfl⟩;show J8 Stp.next Stp.exit Stp.fail _ _=_;simp only[J8];rw[bfD (n5 (Qki _))]
      | cons q o =>
        refine⟨2,?_,rfl,j,rfl⟩;show J9 Stp.next Stp.exit Stp.fail _ _=_;simp only[J9];rw[bfD (n5 (Qki _))]) 0 out ⟨Qku _,rfl⟩
  obtain⟨t,s,h1,rfl,j,rfl⟩:=key;exact⟨j,h1⟩
theorem vg8 (l : List V3) (hl : l.length ≤ 48) (a : Nat) (ha : a < l.length) (out : List Pln) (ho : out.length ≤ 800000) :
    ∃j,lp (Y6 ⟨(a:Int)⟩) ⟨phP out,l,0,out⟩=(phP (F1 l out a)+1,⟨phP (F1 l out a),l,((j:Nat):Int),F1 l out a⟩):=by
  have hL2:∀o k,k<=48->(F2 l a o k).length<=o.length+96:=λo k hk=>by have:=fc3 (jd0 l a k) o k;show ((List.range k).foldl (Ub7 l a k) o).length<=_;omega
  have hpre:∀ j,j≤a→((List.range j).foldl (F2 l a) out).length≤out.length+96*j:=by
    intro j
    induction j with
    |zero=>intro _;exact Qkt _
    | succ j ih =>
      intro h;rw[o9]
      have:=ih (by omega)
      have:=hL2 ((List.range j).foldl (F2 l a) out) j (by omega)
      omega
  have key:=P5 (step:=Y6 ⟨(a:Int)⟩) (mk:=fun j (o:List Pln)=>(⟨phP o,l,(j:Int),o⟩:A5)) a (fun j o=>j≤a∧o=(List.range j).foldl (F2 l a) out) (fun t s=>t=phP (F1 l out a)+1∧∃ j:Nat,s=⟨phP (F1 l out a),l,(j:Int),F1 l out a⟩) (by omega)
    (fun j o hj hi=>by
      obtain⟨hja,hi⟩:=hi;have hlen:o.length<=900000:=by rw[hi];have:=hpre j hja;omega
      have hn:=m9 hj (show a<=4611686018427387904 by omega)
      obtain⟨j',e1⟩:=vg7 l hl a j ha hj o hlen
      have fin : ∀ {s : A5}, s = ⟨phP (F2 l a o j), l, ((j + 1 : Nat) : Int), F2 l a o j⟩ → Nx (.next s) (fun t => t = phP (F1 l out a) + 1 ∧ ∃ j' : Nat, (⟨phP o, l, (j : Int), o⟩ : A5) = ⟨phP (F1 l out a), l, (j' : Int), F1 l out a⟩)
          (λs=>∃o',s=(⟨phP o',l,((j+1:Nat):Int),o'⟩:A5)/\(j+1<=a/\o'=(List.range (j+1)).foldl (F2 l a) out)):=λ{s} hs =>
        .nx ⟨_,hs,by omega,by rw[o9,<- hi]⟩
      clear hi
      generalize hF:F2 l a o j=R at *
      cases o with
      | nil =>
        show Nx (K0 Stp.next Stp.exit Stp.fail _ _) _ _;simp only[K0,i9,i6,hn];have e1:lp (Y5 ⟨l,(a:Int),(j:Int)⟩) ⟨0,0,[]⟩=_:=e1;rw[btD (i8 hj),e1];cases R with
        |nil=>exact fin rfl
        |cons q R=>exact fin rfl
      | cons q o =>
        show Nx (K1 Stp.next Stp.exit Stp.fail _ _) _ _;simp only[K1,i9,i6,hn];have e1:lp (Y5 ⟨l,(a:Int),(j:Int)⟩) ⟨1,0,q::o⟩=_:=e1;rw[btD (i8 hj),e1];cases R with
        |nil=>exact fin rfl
        |cons q R=>exact fin rfl)
    (fun j o hj hi=>by
      obtain⟨h1,hi⟩:=hi;have e:j=a:=by omega
      subst e;have hF:o=F1 l out j:=hi;rw[<- hF];cases o with
      | nil =>
        refine⟨1,?_,rfl,j,rfl⟩;show K0 Stp.next Stp.exit Stp.fail _ _=_;simp only[K0];rw[bfD (n5 (Qki _))]
      | cons q o =>
        refine⟨2,?_,rfl,j,rfl⟩;show K1 Stp.next Stp.exit Stp.fail _ _=_;simp only[K1];rw[bfD (n5 (Qki _))]) 0 out ⟨Qku _,rfl⟩
  obtain⟨t,s,h1,rfl,j,rfl⟩:=key;exact⟨j,h1⟩
theorem vg9 (l : List V3) (hl : l.length ≤ 48) :
    ∃j,lp (Ba8 ⟨⟩) ⟨0,l,0,[]⟩=(phP (F0 l)+1,⟨phP (F0 l),l,((j:Nat):Int),F0 l⟩):=by
  have hL2:∀a o k,k<=48->(F2 l a o k).length<=o.length+96:=λa o k hk=>by have:=fc3 (jd0 l a k) o k;show ((List.range k).foldl (Ub7 l a k) o).length<=_;omega
  have hL1:∀ o a,a≤48→∀ j,j≤a→((List.range j).foldl (F2 l a) o).length≤o.length+96*j:=by
    intro o a ha j
    induction j with
    |zero=>intro _;exact Qkt _
    | succ j ih =>
      intro h;rw[o9]
      have:=ih (by omega)
      have:=hL2 a ((List.range j).foldl (F2 l a) o) j (by omega)
      omega
  have hpre:∀ j,j≤l.length→((List.range j).foldl (F1 l) []).length≤5000*j:=by
    intro j
    induction j with
    |zero=>intro _;exact Qkt _
    | succ j ih =>
      intro h;rw[o9]
      have:=ih (by omega)
      have:(F1 l ((List.range j).foldl (F1 l) []) j).length<=_:=hL1 ((List.range j).foldl (F1 l) []) j (by omega) j (Qkt _)
      omega
  have key:=P5 (step:=Ba8 ⟨⟩) (mk:=fun j (o:List Pln)=>(⟨phP o,l,(j:Int),o⟩:A9)) l.length (fun j o=>j≤l.length∧o=(List.range j).foldl (F1 l) []) (fun t s=>t=phP (F0 l)+1∧∃ j:Nat,s=⟨phP (F0 l),l,(j:Int),F0 l⟩) (by omega)
    (fun j o hj hi=>by
      obtain⟨hja,hi⟩:=hi;have hlen:o.length<=800000:=by rw[hi];have:=hpre j hja;omega
      have hn:=m9 hj (show l.length<=4611686018427387904 by omega)
      obtain⟨j',e1⟩:=vg8 l hl j hj o hlen
      have fin : ∀ {s : A9}, s = ⟨phP (F1 l o j), l, ((j + 1 : Nat) : Int), F1 l o j⟩ → Nx (.next s) (fun t => t = phP (F0 l) + 1 ∧ ∃ j' : Nat, (⟨phP o, l, (j : Int), o⟩ : A9) = ⟨phP (F0 l), l, (j' : Int), F0 l⟩)
          (λs=>∃o',s=(⟨phP o',l,((j+1:Nat):Int),o'⟩:A9)/\(j+1<=l.length/\o'=(List.range (j+1)).foldl (F1 l) [])):=λ{s} hs =>
        .nx ⟨_,hs,by omega,by rw[o9,<- hi]⟩
      clear hi
      generalize hF:F1 l o j=R at *
      cases o with
      | nil =>
        show Nx (K2 Stp.next Stp.exit Stp.fail ⟨⟩ _) _ _;simp only[K2,i9,i6,hn];have e1:lp (Y6 ⟨(j:Int)⟩) ⟨0,l,0,[]⟩=_:=e1;rw[btD (i8 hj),e1];cases R with
        |nil=>exact fin rfl
        |cons q R=>exact fin rfl
      | cons q o =>
        show Nx (K3 Stp.next Stp.exit Stp.fail ⟨⟩ _) _ _;simp only[K3,i9,i6,hn];have e1:lp (Y6 ⟨(j:Int)⟩) ⟨1,l,0,q::o⟩=_:=e1;rw[btD (i8 hj),e1];cases R with
        |nil=>exact fin rfl
        |cons q R=>exact fin rfl)
    (fun j o hj hi=>by
      obtain⟨h1,hi⟩:=hi;have e:j=l.length:=by omega
      subst e;have hF:o=F0 l:=hi;rw[<- hF];cases o with
      | nil =>
        refine⟨1,?_,rfl,_,rfl⟩;show K2 Stp.next Stp.exit Stp.fail ⟨⟩ _=_;simp only[K2];rw[bfD (n5 (Qki _))]
      | cons q o =>
        refine⟨2,?_,rfl,_,rfl⟩;show K3 Stp.next Stp.exit Stp.fail ⟨⟩ _=_;simp only[K3];rw[bfD (n5 (Qki _))]) 0 [] ⟨Qku _,rfl⟩
  obtain⟨t,s,h1,rfl,j,rfl⟩:=key;exact⟨j,h1⟩
def lc7(l:List V3):List Pln×Int:=if Oc0 l=0 then (F0 l,0) else ([],Oc0 l)
theorem zf6 (l:List V3) (hl:l.length≤48):Rd (two (r1L tP) r1I) (Pa3 l) (fun r=>r=lc7 l):=by
  obtain⟨j,e1⟩:=vg9 l hl;have hb:l.length<=1000000000:=by omega
  unfold Pa3 lc7;simp only[i9,i6,J1,be3 l hb,hf9 l hb,l9];rw[e1];by_cases h0:Oc0 l=0
  · rw[if_pos h0,show (Oc0 l != 0)=false by rw[h0];rfl,Wa6]
    cases hF:F0 l with
    |nil=>exact⟨_,([],0),rfl,rfl,rfl⟩
    |cons q o=>exact⟨_,(q::o,0),rfl,wf6 (q::o) 0,rfl⟩
  · rw[if_neg h0,show (Oc0 l != 0)=true by simpa using h0,l9]
    exact⟨_,([],Oc0 l),rfl,rfl,rfl⟩
theorem Ee3(l:List V3)(hl:l.length<=48):xb1 l=lc7 l:=(zf6 l hl).p
def Yc4(l:List Pln)(p:Pln):Bool:=l.any λq=>eqP q p
theorem Ee4(l:List Pln)(p:Pln):Yc4 l p=true↔p∈l:=by
 unfold Yc4;rw[Qkk];exact⟨λ⟨q,h,e⟩=>by rw[Xc9] at e;exact e ▸ h,λh=>⟨p,h,(Xc9 p p).2 rfl⟩⟩
theorem zf7{c:List Pln}(hf:ful c=true):(chk c==0)=true/\Bds (c++ws)/\Qe3 (c++ws):=by
 unfold ful at hf;rw[Qkp] at hf;have hb:=(Ub6 hf.1).1;exact⟨hf.1,hb,(be9 hb (Qe4 c) (by simp[ws])).1 hf.2⟩
def ipt(v:V3):Pt:=⟨v.x,v.y,v.z,1⟩
theorem ig8{v:V3}(h:inV v=true):Okx (ipt v):=by
 obtain⟨h1,h2,h3⟩:=(cb0 v).1 h;exact⟨Int.one_pos,by show (1:Int)<=_;omega,h1.mono (by omega),h2.mono (by omega),h3.mono (by omega)⟩
theorem zf8{v:V3}(h:inV v=true):∀p∈ws,0<=rmZ p (ipt v):=by
 obtain⟨⟨a1,a2⟩,⟨a3,a4⟩,a5,a6⟩:=(cb0 v).1 h;intro p hp;simp only[ws,Qka,Qkag,or_false] at hp
 rcases hp with rfl|rfl|rfl|rfl|rfl|rfl<;>simp only[rmZ,ipt]<;>omega
theorem Ze4{c:List Pln}{x:Pt}(hb:∀p∈c,Bd p)(hx:Okx x):inn c x=true↔∀p∈c,0<=rmZ p x:=by
 unfold inn;rw[Qkm];refine⟨λh p hp=>?_,λh p hp=>?_⟩
 ·have:=h p hp
  rw[hf6 (hb p hp) hx] at this;simpa using this
 ·rw[hf6 (hb p hp) hx];simpa using h p hp
theorem Md3{p:Pln}(h:okp p=true):g3 p.n=1:=by
 unfold okp at h;simp only[Qkp,beq_iff_eq] at h;exact h.2.1
theorem od2{p:Pln}(h:okp p=true):p.n≠⟨0,0,0⟩:=λe=>by
 have:=Md3 h
 rw[e] at this
 revert this
 decide
theorem zf9(c:Int)(n:V3):g3 ⟨c*n.x,c*n.y,c*n.z⟩=c.natAbs*g3 n:=by
 unfold g3;simp only[Int.natAbs_mul,Nat.gcd_mul_left];rw[Int.natCast_mul]
theorem Ee5{m n:V3}(hm:g3 m=1)(hn:g3 n=1)(h:d8 m n=⟨0,0,0⟩):n=m\/n=neg m:=by
 unfold d8 at h;simp only[V3.mk.injEq] at h;obtain⟨c1,c2,c3⟩:=h;have k:∀{c d:Int},c*m.x=d*n.x->c*m.y=d*n.y->c*m.z=d*n.z->c.natAbs=d.natAbs:=λ{c d} e1 e2 e3=>by
  have a1:=zf9 c m;have a2:=zf9 d n;rw[e1,e2,e3,a2,hm,hn] at a1;omega
 have ax:=k (c:=n.x) (d:=m.x) (by grind) (by grind) (by grind)
 have ay:=k (c:=n.y) (d:=m.y) (by grind) (by grind) (by grind)
 have az:=k (c:=n.z) (d:=m.z) (by grind) (by grind) (by grind)
 have sg:∀{a c:Int},a.natAbs=c.natAbs->a=c\/a=-c:=λh=>by omega
 -- the sign of one component that is not zero is that of all
 have go:∀{s u t v:Int},u≠0->s*v=u*t->s=u->t=v:=λ{s u t v} hu h e=>by
  subst e;exact (Qkas hu h).symm
 have gn:∀{s u t v:Int},u≠0->s*v=u*t->s=-u->t=-v:=λ{s u t v} hu h e=>by
  subst e
  have:u*t=u*(-v):=by rw[<- h];grind
  exact Qkas hu this
 by_cases hx:m.x=0
 ·have hx':n.x=0:=by omega
  by_cases hy:m.y=0
  ·have hy':n.y=0:=by omega
   rcases sg az with e|e
   ·exact .inl (V3.ext' (by omega) (by omega) e)
   ·exact .inr (V3.ext' (by show n.x=-m.x;omega) (by show n.y=-m.y;omega) e)
  ·rcases sg ay with e|e
   ·exact .inl (V3.ext' (by omega) e (go hy (by grind) e))
   ·exact .inr (V3.ext' (by show n.x=-m.x;omega) e (gn hy (by grind) e))
 ·rcases sg ax with e|e
  ·exact .inl (V3.ext' e (go hx (by grind) e) (go hx (by grind) e))
  ·exact .inr (V3.ext' e (gn hx (by grind) e) (gn hx (by grind) e))
structure Kg5(l:List V3):Prop where
 h:∃a c k v,a∈l/\c∈l/\k∈l/\v∈l/\dot (d8 (sub c a) (sub k a)) (sub v a)≠0
theorem gLm{l:List V3}{j:Nat}(h:j<l.length):gL tV l j∈l:=lc1 tV h
theorem ig9{l:List V3}(hf:nf0 l=true):Kg5 l:=by
 unfold nf0 at hf;obtain⟨a,ha,hf⟩:=Qkk.1 hf;unfold nf1 at hf;obtain⟨c,hc,hf⟩:=Qkk.1 hf;unfold nf2 at hf;obtain⟨k,hk,hf⟩:=Qkk.1 hf;rw[Qkaw] at ha hc hk;unfold nf at hf;rw[Qkp] at hf;obtain⟨h1,h2⟩:=hf;obtain⟨⟨i1,i2,i3⟩,⟨ok,⟨g,hg,e1,e2,e3⟩,o⟩⟩:=oa5 h1;unfold zf0 at h2;obtain⟨v,hv,h2⟩:=Qkk.1 h2;generalize (A6 (gL tV l a) (gL tV l c) (gL tV l k)).1=p at *
 refine⟨_,_,_,v,gLm ha,gLm (show c<l.length by omega),gLm (show k<l.length by omega),hv,λh0=>?_⟩
 have hs:fa8 p v≠0:=by simpa using h2
 have hiv:inV v=true:=by
  cases hi:inV v with
  |true=>rfl
  |false=>exact absurd (by unfold fa8;rw[ok,hi];rfl) hs
 apply hs;rw[Bc8 ok hiv,o]
 have:g*(dot p.n v-dot p.n (gL tV l a))=dot (d8 (sub (gL tV l c) (gL tV l a)) (sub (gL tV l k) (gL tV l a))) (sub v (gL tV l a)):=by
  unfold dot;rw[<- e1,<- e2,<- e3];unfold sub
  grind
 rw[h0] at this
 have:=(Qkb.1 this).resolve_left (by omega)
 omega
theorem Ee6{a c k v n:V3}(hd:dot (d8 (sub c a) (sub k a)) (sub v a)≠0)(hn:n≠⟨0,0,0⟩)(h1:dot n c=dot n a)(h2:dot n k=dot n a)(h3:dot n v=dot n a):False:=by
 generalize hD:dot (d8 (sub c a) (sub k a)) (sub v a)=D at *
 have q1:dot n (sub c a)=0:=by unfold dot sub at *;grind
 have q2:dot n (sub k a)=0:=by unfold dot sub at *;grind
 have q3:dot n (sub v a)=0:=by unfold dot sub at *;grind
 generalize sub c a=p at *
 generalize sub k a=q at *
 generalize sub v a=r at *
 have i1:D*n.x=(d8 q r).x*dot n p+(d8 r p).x*dot n q+(d8 p q).x*dot n r:=by rw[<- hD];simp only[dot,d8];grind
 have i2:D*n.y=(d8 q r).y*dot n p+(d8 r p).y*dot n q+(d8 p q).y*dot n r:=by rw[<- hD];simp only[dot,d8];grind
 have i3:D*n.z=(d8 q r).z*dot n p+(d8 r p).z*dot n q+(d8 p q).z*dot n r:=by rw[<- hD];simp only[dot,d8];grind
 rw[q1,q2,q3] at i1 i2 i3;have z:∀{x:Int},D*x=0->x=0:=λh=>(Qkb.1 h).resolve_left hd
 exact hn (V3.ext' (z (by omega)) (z (by omega)) (z (by omega)))
theorem mb0{p:Pln}{l:List V3}(hp:okp p=true)(hl:l.all inV=true):hold p l=true↔∀v∈l,dot p.n v<=p.b:=by
 unfold hold;rw[Qkar,<- Bool.not_eq_true,Qkk];constructor
 ·intro h v hv;have h1:¬ fa8 p v>0:=λh'=>h ⟨v,hv,by simpa using h'⟩
  rw[Md1 hp (Qkm.1 hl v hv)] at h1;omega
 ·rintro h ⟨v,hv,h1⟩;have h1:fa8 p v>0:=by simpa using h1
  rw[Md1 hp (Qkm.1 hl v hv)] at h1
  have:=h v hv
  omega
structure Fct(l:List V3)(p:Pln):Prop where
 ok:okp p=true
 hd:hold p l=true
theorem Yc5(p:Pln)(v:V3):dot (ba4 p).n v=-dot p.n v:=by unfold dot ba4;grind
theorem Af0{l:List V3}(hf:nf0 l=true){p:Pln}(hp:okp p=true):∃v∈l,dot p.n v≠p.b:=by
 obtain⟨a,c,k,v,ha,hc,hk,hv,hd⟩:=ig9 hf;by_cases h1:dot p.n a=p.b
 ·by_cases h2:dot p.n c=p.b
  ·by_cases h3:dot p.n k=p.b
   ·by_cases h4:dot p.n v=p.b
    ·exact (Ee6 hd (od2 hp) (h2.trans h1.symm) (h3.trans h1.symm) (h4.trans h1.symm)).elim
    ·exact⟨v,hv,h4⟩
   ·exact⟨k,hk,h3⟩
  ·exact⟨c,hc,h2⟩
 ·exact⟨a,ha,h1⟩
theorem Md4{l:List V3}(hl:l.all inV=true)(hf:nf0 l=true){u w x x':V3}(hx:x∈l)(hx':x'∈l){p p':Pln}(h:Thr u w x p)(h':Thr u w x' p')(hh:hold p l=true)(hh':hold p' l=true):p=p':=by
 obtain⟨ok,⟨g,hg,e1,e2,e3⟩,o⟩:=h;obtain⟨ok',⟨g',hg',f1,f2,f3⟩,o'⟩:=h';have b1:=(mb0 ok hl).1 hh;have b2:=(mb0 ok' hl).1 hh';have k1:=b1 x' hx';have k2:=b2 x hx;have d1:g*(dot p.n x'-dot p.n u)=dot (d8 (sub w u) (sub x u)) (sub x' u):=by
  unfold dot;rw[<- e1,<- e2,<- e3];unfold sub;grind
 have d2:g'*(dot p'.n x-dot p'.n u)=-dot (d8 (sub w u) (sub x u)) (sub x' u):=by
  have:g'*(dot p'.n x-dot p'.n u)=dot (d8 (sub w u) (sub x' u)) (sub x u):=by
   unfold dot;rw[<- f1,<- f2,<- f3];unfold sub;grind
  rw[this];simp only[dot,d8];grind
 have m1:g*(dot p.n x'-dot p.n u)<=0:=Qkx (by omega) (by omega)
 have m2:g'*(dot p'.n x-dot p'.n u)<=0:=Qkx (by omega) (by omega)
 have hD:dot (d8 (sub w u) (sub x u)) (sub x' u)=0:=by omega
 have hc:d8 p.n p'.n=⟨0,0,0⟩:=by
  generalize sub w u=d at *
  generalize sub x u=y at *
  generalize sub x' u=y' at *
  have c1:g*g'*(d8 p.n p'.n).x=d.x*dot (d8 d y) y':=by
   have:g*g'*(d8 p.n p'.n).x=(g*p.n.y)*(g'*p'.n.z)-(g*p.n.z)*(g'*p'.n.y):=by simp only[d8];grind
   rw[this,e2,e3,f2,f3];simp only[dot,d8];grind
  have c2:g*g'*(d8 p.n p'.n).y=d.y*dot (d8 d y) y':=by
   have:g*g'*(d8 p.n p'.n).y=(g*p.n.z)*(g'*p'.n.x)-(g*p.n.x)*(g'*p'.n.z):=by simp only[d8];grind
   rw[this,e1,e3,f1,f3];simp only[dot,d8];grind
  have c3:g*g'*(d8 p.n p'.n).z=d.z*dot (d8 d y) y':=by
   have:g*g'*(d8 p.n p'.n).z=(g*p.n.x)*(g'*p'.n.y)-(g*p.n.y)*(g'*p'.n.x):=by simp only[d8];grind
   rw[this,e1,e2,f1,f2];simp only[dot,d8];grind
  rw[hD,Qkal] at c1 c2 c3;have hgg:g*g'≠0:=Int.ne_of_gt (Qkv hg hg');exact V3.ext' ((Qkb.1 c1).resolve_left hgg) ((Qkb.1 c2).resolve_left hgg) ((Qkb.1 c3).resolve_left hgg)
 rcases Ee5 (Md3 ok) (Md3 ok') hc with e|e
 ·cases p with | mk n b=>cases p' with | mk n' b' =>
  simp only at e o o'
  subst e;rw[o,o']
 ·exfalso;obtain⟨v,hv,hne⟩:=Af0 hf ok;have q1:=b1 v hv;have q2:=b2 v hv;rw[o',e] at q2;have s:∀z:V3,dot (neg p.n) z=-dot p.n z:=λz=>by unfold dot neg;grind
  rw[s,s] at q2;omega
theorem if0 (l : List V3) (a c k : Nat) (out : List Pln) (p : Pln) : p ∈ Ub7 l a c out k ↔ p ∈ out ∨ ((A6 (gL tV l a) (gL tV l c) (gL tV l k)).2 = true ∧
  ((p=(A6 (gL tV l a) (gL tV l c) (gL tV l k)).1/\hold p l=true)\/(p=ba4 (A6 (gL tV l a) (gL tV l c) (gL tV l k)).1/\hold p l=true))):=by
 unfold Ub7;generalize A6 (gL tV l a) (gL tV l c) (gL tV l k)=T;cases h2:T.2 with
 |false=>simp
 |true =>
  simp only[if_true];cases h4:hold (ba4 T.1) l with
  |false =>
   simp only[Qkq,if_false];cases h3:hold T.1 l with
   |false =>
    simp only[Qkq,if_false];constructor
    ·exact λh=>.inl h
    ·rintro (h|⟨_,⟨rfl,h⟩|⟨rfl,h⟩⟩)
     ·exact h
     ·rw[h3] at h;cases h
     ·rw[h4] at h;cases h
   |true =>
    simp only[if_true,fc1];constructor
    ·rintro (rfl|h)
     ·exact .inr ⟨trivial,.inl ⟨rfl,h3⟩⟩
     ·exact .inl h
    ·rintro (h|⟨_,⟨rfl,h⟩|⟨rfl,h⟩⟩)
     ·exact .inr h
     ·exact .inl rfl
     ·rw[h4] at h;cases h
  |true =>
   simp only[if_true,fc1];cases h3:hold T.1 l with
   |false =>
    simp only[Qkq,if_false];constructor
    ·rintro (rfl|h)
     ·exact .inr ⟨trivial,.inr ⟨rfl,h4⟩⟩
     ·exact .inl h
    ·rintro (h|⟨_,⟨rfl,h⟩|⟨rfl,h⟩⟩)
     ·exact .inr h
     ·rw[h3] at h;cases h
     ·exact .inl rfl
   |true =>
    simp only[if_true,fc1];constructor
    ·rintro (rfl|rfl|h)
     ·exact .inr ⟨trivial,.inr ⟨rfl,h4⟩⟩
     ·exact .inr ⟨trivial,.inl ⟨rfl,h3⟩⟩
     ·exact .inl h
    ·rintro (h|⟨_,⟨rfl,h⟩|⟨rfl,h⟩⟩)
     ·exact .inr (.inr h)
     ·exact .inr (.inl rfl)
     ·exact .inl rfl
theorem Pb0{f:List Pln->Nat->List Pln}{Q:Nat->Pln->Prop}(h:∀o k p,p∈f o k↔p∈o\/Q k p)(o:List Pln)(p:Pln):∀n,p∈(List.range n).foldl f o↔p∈o\/∃k,k<n/\Q k p
 |0=>by simp
 |n+1=>by
  rw[o9,h,Pb0 h o p n];constructor
  ·rintro ((h|⟨k,hk,h⟩)|h)
   ·exact .inl h
   ·exact .inr ⟨k,by omega,h⟩
   ·exact .inr ⟨n,by omega,h⟩
  ·rintro (h|⟨k,hk,h⟩)
   ·exact .inl (.inl h)
   ·by_cases e:k=n
    ·subst e;exact .inr h
    ·exact .inl (.inr ⟨k,by omega,h⟩)
def Fq (l : List V3) (a c k : Nat) (p : Pln) : Prop := (A6 (gL tV l a) (gL tV l c) (gL tV l k)).2 = true ∧
  ((p=(A6 (gL tV l a) (gL tV l c) (gL tV l k)).1/\hold p l=true)\/(p=ba4 (A6 (gL tV l a) (gL tV l c) (gL tV l k)).1/\hold p l=true))
theorem Af1(l:List V3)(a c:Nat)(out:List Pln)(p:Pln):p∈F2 l a out c↔p∈out\/∃k,k<c/\Fq l a c k p:=Pb0 (λo k p=>if0 l a c k o p) out p c
theorem jg0(l:List V3)(a:Nat)(out:List Pln)(p:Pln):p∈F1 l out a↔p∈out\/∃c,c<a/\∃k,k<c/\Fq l a c k p:=Pb0 (λo c p=>Af1 l a c o p) out p a
theorem Qe7(l:List V3)(p:Pln):p∈F0 l↔∃a,a<l.length/\∃c,c<a/\∃k,k<c/\Fq l a c k p:=by
 have:=Pb0 (λo a p=>jg0 l a o p) [] p l.length
 simpa [F0] using this
theorem if1{l:List V3}{a c:Nat}{out:List Pln}{k:Nat}(h:lb9 out):lb9 (Ub7 l a c out k):=by
 unfold Ub7;split
 ·split
  ·refine Yc2 _ ?_;split
   ·exact Yc2 _ h
   ·exact h
  ·split
   ·exact Yc2 _ h
   ·exact h
 ·exact h
theorem fc4{f:List Pln->Nat->List Pln}(h:∀o k,lb9 o->lb9 (f o k)){o:List Pln}(ho:lb9 o):∀n,lb9 ((List.range n).foldl f o)
 |0=>ho
 |n+1=>by rw[o9];exact h _ _ (fc4 h ho n)
theorem Qe8{l:List V3}{a c:Nat}{out:List Pln}(h:lb9 out):lb9 (F2 l a out c):=fc4 (λ_ _ h=>if1 h) h c
theorem Af2{l:List V3}{a:Nat}{out:List Pln}(h:lb9 out):lb9 (F1 l out a):=fc4 (λ_ _ h=>Qe8 h) h a
theorem Qe9(l:List V3):lb9 (F0 l):=fc4 (λ_ _ h=>Af2 h) .nil l.length
theorem if2{l:List Pln}(h:lb9 l):l.Nodup:=List.Pairwise.imp (λ{x y} (h:LtP x y) (e:x=y)=>xd2 y (e ▸ h)) h
theorem jg1{l:List V3}(hl:l.all inV=true)(hf:nf0 l=true){a c:Nat}(ha:a<l.length)(hc:c<a){out:List Pln}(ho:lb9 out):(F2 l a out c).length<=out.length+2:=by
 have hk:∀k,k<c->gL tV l k∈l:=λk hk=>gLm (show k<l.length by omega)
 -- the two that there may be
 have one:∃P,∀k,k<c->∀p,(A6 (gL tV l a) (gL tV l c) (gL tV l k)).2=true->p=(A6 (gL tV l a) (gL tV l c) (gL tV l k)).1->hold p l=true->p=P:=by
  by_cases h:∃k,k<c/\(A6 (gL tV l a) (gL tV l c) (gL tV l k)).2=true/\hold (A6 (gL tV l a) (gL tV l c) (gL tV l k)).1 l=true
  ·obtain⟨k0,h1,h2,h3⟩:=h;refine⟨(A6 (gL tV l a) (gL tV l c) (gL tV l k0)).1,λk hk1 p h4 h5 h6=>?_⟩
   subst h5;exact Md4 hl hf (hk k hk1) (hk k0 h1) (oa5 h4).2 (oa5 h2).2 h6 h3
  ·exact⟨⟨⟨0,0,0⟩,0⟩,λk hk1 p h4 h5 h6=>(h ⟨k,hk1,h4,h5 ▸ h6⟩).elim⟩
 have two:∃Q,∀k,k<c->∀p,(A6 (gL tV l a) (gL tV l c) (gL tV l k)).2=true->p=ba4 (A6 (gL tV l a) (gL tV l c) (gL tV l k)).1->hold p l=true->p=Q:=by
  -- through the same points in the other order
  have sw:∀{x:V3} {p:Pln},Thr (gL tV l a) (gL tV l c) x p->Thr (gL tV l c) (gL tV l a) x (ba4 p):=λ{x p} h=>by
   obtain⟨ok,⟨g,hg,e1,e2,e3⟩,o⟩:=h;have on:dot p.n (gL tV l c)=dot p.n (gL tV l a):=by
    have:g*(dot p.n (gL tV l c)-dot p.n (gL tV l a))=0:=by
     have:g*(dot p.n (gL tV l c)-dot p.n (gL tV l a))=dot (d8 (sub (gL tV l c) (gL tV l a)) (sub x (gL tV l a))) (sub (gL tV l c) (gL tV l a)):=by
      unfold dot;rw[<- e1,<- e2,<- e3];unfold sub;grind
     rw[this];simp only[dot,d8];grind
    have:=(Qkb.1 this).resolve_left (by omega)
    omega
   refine⟨yc3 ok,⟨g,hg,?_,?_,?_⟩,?_⟩
   ·show g*-p.n.x=_;rw[Qkaj,e1];simp only[d8,sub];grind
   ·show g*-p.n.y=_;rw[Qkaj,e2];simp only[d8,sub];grind
   ·show g*-p.n.z=_;rw[Qkaj,e3];simp only[d8,sub];grind
   ·rw[Yc5,on,<- o];rfl
  by_cases h:∃k,k<c/\(A6 (gL tV l a) (gL tV l c) (gL tV l k)).2=true/\hold (ba4 (A6 (gL tV l a) (gL tV l c) (gL tV l k)).1) l=true
  ·obtain⟨k0,h1,h2,h3⟩:=h;refine⟨ba4 (A6 (gL tV l a) (gL tV l c) (gL tV l k0)).1,λk hk1 p h4 h5 h6=>?_⟩
   subst h5;exact Md4 hl hf (hk k hk1) (hk k0 h1) (sw (oa5 h4).2) (sw (oa5 h2).2) h6 h3
  ·exact⟨⟨⟨0,0,0⟩,0⟩,λk hk1 p h4 h5 h6=>(h ⟨k,hk1,h4,h5 ▸ h6⟩).elim⟩
 obtain⟨P,hP⟩:=one;obtain⟨Q,hQ⟩:=two;have hs:F2 l a out c⊆out++[P,Q]:=λp hp=>by
  rcases (Af1 l a c out p).1 hp with h|⟨k,hk1,h1,⟨h2,h3⟩|⟨h2,h3⟩⟩
  ·exact Qkaf _ h
  ·rw[hP k hk1 p h1 h2 h3];simp
  ·rw[hQ k hk1 p h1 h2 h3];simp
 have:=List.Nodup.length_le_of_subset (if2 (Qe8 ho)) hs
 simpa using this
theorem Qf2(l:List V3)(a:Nat)(out:List Pln):F2 l a out 0=out:=rfl
theorem Af3{l:List V3}(hl:l.all inV=true)(hf:nf0 l=true){a:Nat}(ha:a<l.length){out:List Pln}(ho:lb9 out):∀n,n<=a->((List.range n).foldl (F2 l a) out).length<=out.length+2*(n-1)
 |0,_=>by simp
 |1,_=>by
  show (F2 l a out 0).length<=_;rw[Qf2];omega
 |n+2,h=>by
  rw[o9];have h1:=Af3 hl hf ha ho (n+1) (by omega)
  have h2:=jg1 hl hf ha (show n+1<a by omega) (fc4 (f:=F2 l a) (λ_ _ h=>Qe8 h) ho (n+1))
  omega
theorem jg2{l:List V3}(hl:l.all inV=true)(hf:nf0 l=true)(h8:l.length<=8):(F0 l).length<=42:=by
 have h:∀n,n<=l.length->((List.range n).foldl (F1 l) []).length<=(n-1)*(n-2):=by
  intro n
  induction n with
  |zero=>intro _;exact Qkt _
  |succ n ih =>
   intro hn;rw[o9];have h1:=ih (by omega)
   have h2:(F1 l ((List.range n).foldl (F1 l) []) n).length<=_:=Af3 hl hf (show n<l.length by omega) (fc4 (f:=F1 l) (λ_ _ h=>Af2 h) .nil n) n (Qkt _)
   match n,hn with
   |0,_=>simpa using h2
   |1,_ =>
    have h1:((List.range 1).foldl (F1 l) []).length<=0:=h1;have h2:(F1 l ((List.range 1).foldl (F1 l) []) 1).length<=((List.range 1).foldl (F1 l) []).length+2*(1-1):=h2;show (F1 l ((List.range 1).foldl (F1 l) []) 1).length<=0;omega
   |2,_=>simp at h1 h2 ⊢;omega
   |3,_=>simp at h1 h2 ⊢;omega
   |4,_=>simp at h1 h2 ⊢;omega
   |5,_=>simp at h1 h2 ⊢;omega
   |6,_=>simp at h1 h2 ⊢;omega
   |7,_=>simp at h1 h2 ⊢;omega
   |n+8,hn=>omega
 have h1:=h l.length (Qkt _);show ((List.range l.length).foldl (F1 l) []).length<=42
 have:∀n,n<=8->(n-1)*(n-2)<=42:=by decide
 have:=this l.length h8
 omega
theorem ne5{l:List V3}{p:Pln}(hp:p∈F0 l):Fct l p:=by
 obtain⟨a,ha,c,hc,k,hk,h1,⟨h2,h3⟩|⟨h2,h3⟩⟩:=(Qe7 l p).1 hp
 ·exact⟨h2 ▸ (oa5 h1).2.ok,h3⟩
 ·exact⟨h2 ▸ yc3 (oa5 h1).2.ok,h3⟩
theorem Qf3{l:List V3}(hl:l.all inV=true)(hf:nf0 l=true):Qe3 (F0 l++ws):=by
 obtain⟨a,c,k,v,ha,hc,hk,hv,hd⟩:=ig9 hf;have hin:=Qkm.1 hl
 -- a plane on whose fa8 all ig9 lie has their middle within
 have key:∀p:Pln,p.n≠⟨0,0,0⟩->dot p.n a<=p.b->dot p.n c<=p.b->dot p.n k<=p.b->dot p.n v<=p.b->0<rmZ p ⟨a.x+c.x+k.x+v.x,a.y+c.y+k.y+v.y,a.z+c.z+k.z+v.z,4⟩:=λp hn h1 h2 h3 h4=>by
  have e:rmZ p ⟨a.x+c.x+k.x+v.x,a.y+c.y+k.y+v.y,a.z+c.z+k.z+v.z,4⟩=(p.b-dot p.n a)+(p.b-dot p.n c)+(p.b-dot p.n k)+(p.b-dot p.n v):=by simp only[rmZ,dot];grind
  rw[e];by_cases q:dot p.n a=p.b/\dot p.n c=p.b/\dot p.n k=p.b/\dot p.n v=p.b
  ·obtain⟨q1,q2,q3,q4⟩:=q;exact (Ee6 hd hn (q2.trans q1.symm) (q3.trans q1.symm) (q4.trans q1.symm)).elim
  ·omega
 refine⟨⟨a.x+c.x+k.x+v.x,a.y+c.y+k.y+v.y,a.z+c.z+k.z+v.z,4⟩,by show (0:Int)<4;omega,λp hp=>?_⟩
 rcases List.mem_append.1 hp with h|h
 ·have hF:=ne5 h;have hb:=(mb0 hF.ok hl).1 hF.hd;exact key p (od2 hF.ok) (hb a ha) (hb c hc) (hb k hk) (hb v hv)
 ·have hw : ∀ x ∈ l, dot p.n x ≤ p.b := fun x hx => by
   have:=zf8 (hin x hx) p h
   simp only[rmZ,ipt,dot] at this ⊢;omega
  refine key p ?_ (hw a ha) (hw c hc) (hw k hk) (hw v hv);have h1:∀q∈ws,okp q=true:=Qkm.1 (by decide)
  exact od2 (h1 p h)
theorem Af4(l:List Int):Rd (one r1P) (Da8 l) (λp=>okp p=true):=by
 unfold Da8;simp only[i9,i6];obtain⟨v1,j1,e1,a1,b1,c1,d1⟩:=R4 8 l 0 (by omega) (by omega) (by omega) (by omega)
 rw[e1]
 simp only
 obtain⟨v2,j2,e2,a2,b2,c2,d2⟩:=R4 17 l j1 (by omega) (by omega) (by omega) (by omega)
 rw[e2]
 simp only
 obtain⟨x1,x2,x3,j3,e3,_,_,_,c3,d3⟩:=Cb3 8 l j2 (by omega) (by omega) (by omega) (by omega)
 rw[e3]
 simp only
 obtain⟨y1,y2,y3,j4,e4,_,_,_,c4,d4⟩:=Cb3 8 l j3 (by omega) (by omega) (by omega) (by omega)
 rw[e4]
 simp only
 obtain⟨z1,z2,z3,j5,e5,_,_,_,c5,d5⟩:=Cb3 8 l j4 (by omega) (by omega) (by omega) (by omega)
 rw[e5];simp only[Hb6,Ta7,Ye1 _ (show (0:Int)<3 by omega) (by omega),i6]
 simp only[Qkl,Qkh,l9];have w2:W (v2-8)=v2-8:=E4 (by omega) (by omega)
 have w1:W (1-W (2*Int.tmod v1 2))=1\/W (1-W (2*Int.tmod v1 2))=-1:=by
  have h:=Int.tmod_nonneg 2 a1;have h2:=Int.tmod_lt_of_pos v1 (show (0:Int)<2 by omega)
  rw[E4 (n:=2*Int.tmod v1 2) (by omega) (by omega),E4 (by omega) (by omega)]
  omega
 rw[w2];generalize W (1-W (2*Int.tmod v1 2))=s at *
 have ax:∀{a c d:Int},(a=s/\c=0/\d=0)\/(a=0/\c=s/\d=0)\/(a=0/\c=0/\d=s)->okp ⟨⟨a,c,d⟩,v2-8⟩=true:=λh=>by
  unfold okp;simp only[List.all_cons,List.all_nil,Qkh,Qkp,Ta6,beq_iff_eq,Sm]
  rcases h with⟨rfl,rfl,rfl⟩|⟨rfl,rfl,rfl⟩|⟨rfl,rfl,rfl⟩<;>rcases w1 with rfl|rfl<;>exact⟨by omega,by decide,by omega⟩
 have r1:Rd (one r1P) (some (.agg [i 0,i s,i 0,i (v2-8)],[])) (λp=>okp p=true):=⟨_,⟨⟨0,s,0⟩,v2-8⟩,rfl,rfl,ax (.inr (.inl ⟨rfl,rfl,rfl⟩))⟩
 have r2:Rd (one r1P) (some (.agg [i 0,i 0,i s,i (v2-8)],[])) (λp=>okp p=true):=⟨_,⟨⟨0,0,s⟩,v2-8⟩,rfl,rfl,ax (.inr (.inr ⟨rfl,rfl,rfl⟩))⟩
 have r3:Rd (one r1P) (some (.agg [i s,i 0,i 0,i (v2-8)],[])) (λp=>okp p=true):=⟨_,⟨⟨s,0,0⟩,v2-8⟩,rfl,rfl,ax (.inl ⟨rfl,rfl,rfl⟩)⟩
 refine Rd.sl (λ_=>Rd.sl (λh=>?_) λ_=>?_) (λ_=>?_)
 ·exact⟨_,(A6 ⟨x1,x2,x3⟩ ⟨y1,y2,y3⟩ ⟨z1,z2,z3⟩).1,rfl,rfl,(oa5 h).2.ok⟩
 ·exact Rd.sl (λ_=>r1) λ_=>Rd.sl (λ_=>r2) λ_=>r3
 ·exact Rd.sl (λ_=>r1) λ_=>Rd.sl (λ_=>r2) λ_=>r3
theorem Qf4(l:List Int):okp (Pa0 l)=true:=(Af4 l).p
theorem ce0:g3 ⟨1,0,0⟩=1/\g3 ⟨-1,0,0⟩=1/\g3 ⟨0,1,0⟩=1/\g3 ⟨0,-1,0⟩=1/\g3 ⟨0,0,1⟩=1/\g3 ⟨0,0,-1⟩=1:=by decide
structure Ec8(c:List Pln):Prop where
 l:c.length<=47
 v:∀p∈c,okp p=true
 f:Qe3 (c++ws)
theorem Ec8.chk{c:List Pln}(h:Ec8 c):(chk c==0)=true:=by
 rw[beq_iff_eq,Xc1];exact⟨by have:=h.l;omega,h.v⟩
theorem Ec8.bds{c:List Pln}(h:Ec8 c):Bds (c++ws):=(Ub6 h.chk).1
theorem Ec8.ful{c:List Pln}(h:Ec8 c):ful c=true:=by
 unfold Ce.ful;rw[h.chk,(be9 h.bds (Qe4 c) (by simp[ws])).2 h.f]
 rfl
theorem Af5{lo hi:V3}(h1:Sm 20 lo.x/\Sm 20 lo.y/\Sm 20 lo.z)(h2:Sm 20 hi.x/\Sm 20 hi.y/\Sm 20 hi.z)(h3:lo.x<hi.x/\lo.y<hi.y/\lo.z<hi.z):Ec8 (Ec5 lo hi):=by
 obtain⟨⟨a1,a2⟩,⟨a3,a4⟩,a5,a6⟩:=h1;obtain⟨⟨b1,b2⟩,⟨b3,b4⟩,b5,b6⟩:=h2;obtain⟨c1,c2,c3⟩:=h3;have w:∀{x:Int},-20<=x->x<=20->W (0-x)=-x:=λh h'=>by rw[E4 (by omega) (by omega)];omega
 have e:Ec5 lo hi=[⟨⟨1,0,0⟩,hi.x⟩,⟨⟨-1,0,0⟩,-lo.x⟩,⟨⟨0,1,0⟩,hi.y⟩,⟨⟨0,-1,0⟩,-lo.y⟩,⟨⟨0,0,1⟩,hi.z⟩,⟨⟨0,0,-1⟩,-lo.z⟩]:=by
  unfold Ec5;rw[w a1 a2,w a3 a4,w a5 a6]
 rw[e];refine⟨by simp,λp hp=>?_,⟨⟨lo.x+hi.x,lo.y+hi.y,lo.z+hi.z,2⟩,by show (0:Int)<2;omega,λp hp=>?_⟩⟩
 ·simp only[Qka,Qkag,or_false] at hp;unfold okp;simp only[List.all_cons,List.all_nil,Qkh,Qkp,Ta6,beq_iff_eq,Sm]
  rcases hp with rfl|rfl|rfl|rfl|rfl|rfl<;>exact⟨by simp,by first|exact ce0.1|exact ce0.2.1|exact ce0.2.2.1|exact ce0.2.2.2.1|exact ce0.2.2.2.2.1|exact ce0.2.2.2.2.2,by simp only;omega⟩
 ·simp only[ws,List.cons_append,List.nil_append,Qka,Qkag,or_false] at hp
  rcases hp with rfl|rfl|rfl|rfl|rfl|rfl|rfl|rfl|rfl|rfl|rfl|rfl<;>simp only[rmZ]<;>omega
theorem ce1{l:List V3}(h:Oc0 l=0):l.all inV=true/\nf0 l=true:=by
 unfold Oc0 at h
 split at h
 ·omega
 ·split at h
  ·rename_i h2
   split at h
   ·rename_i h3;exact⟨h2,h3⟩
   ·omega
  ·omega
theorem if3{l:List V3}(h:Oc0 l=0)(h8:l.length<=8):Ec8 (F0 l):=by
 obtain⟨h1,h2⟩:=ce1 h;exact⟨by have:=jg2 h1 h2 h8;omega,λp hp=>(ne5 hp).ok,Qf3 h1 h2⟩
theorem if4(x:List Int):Rd (one (r1L tP)) (Ea0 x) Ec8:=by
 obtain⟨v1,j1,e1,a1,b1,c1,d1⟩:=R4 4 x 0 (by omega) (by omega) (by omega) (by omega)
 obtain⟨w1,w2,w3,j2,e2,p1,p2,p3,c2,d2⟩:=Cb3 6 x j1 (by omega) (by omega) (by omega) (by omega)
 obtain⟨v3,j3,e3,a3,b3,c3,d3⟩:=R4 6 x j2 (by omega) (by omega) (by omega) (by omega)
 obtain⟨v4,j4,e4,a4,b4,c4,d4⟩:=R4 6 x j3 (by omega) (by omega) (by omega) (by omega)
 obtain⟨v5,j5,e5,a5,b5,c5,d5⟩:=R4 6 x j4 (by omega) (by omega) (by omega) (by omega)
 have hin:inB (if 7<(x.length:Int) then 7 else (x.length:Int)) (x.length+1)=true:=by
  rw[wd7];apply decide_eq_true
  split<;>omega
 have hok:∀n m,okL tI n (λk=>(λk=>tI.row (gL tI x k)) (m+k))=true:=λn m=>nb6 tI (f:=λk=>gL tI x (m+k)) λ_ _=>rfl
 unfold Ea0;simp only[i9,i6,J1,e1,e2,e3,e4,e5,Xe4,Xe5,hin,hok,ub1,me7,Ld4,Qkl,Qkh,l9];generalize hL:lsL tI _ _=L;have hg:Ec8 (Ec5 ⟨w1,w2,w3⟩ ⟨W (W (w1+1)+v3),W (W (w2+1)+v4),W (W (w3+1)+v5)⟩):=by
  obtain⟨q1,q2⟩:=p1;obtain⟨q3,q4⟩:=p2;obtain⟨q5,q6⟩:=p3;have i1:W (W (w1+1)+v3)=w1+1+v3:=by rw[E4 (n:=w1+1) (by omega) (by omega),E4 (by omega) (by omega)]
  have i2:W (W (w2+1)+v4)=w2+1+v4:=by rw[E4 (n:=w2+1) (by omega) (by omega),E4 (by omega) (by omega)]
  have i3:W (W (w3+1)+v5)=w3+1+v5:=by rw[E4 (n:=w3+1) (by omega) (by omega),E4 (by omega) (by omega)]
  rw[i1,i2,i3];refine Af5 ⟨⟨?_,?_⟩,⟨?_,?_⟩,?_,?_⟩ ⟨⟨?_,?_⟩,⟨?_,?_⟩,?_,?_⟩ ⟨?_,?_,?_⟩<;>simp only<;>omega
 have hB6:(Ec5 ⟨w1,w2,w3⟩ ⟨W (W (w1+1)+v3),W (W (w2+1)+v4),W (W (w3+1)+v5)⟩).length=6:=rfl;generalize hB:Ec5 _ _=B at *
 have hl6:len (bL tP B)=6:=by rw[V2,hB6]
 have ea:app [] (bL tP B)=bL tP B:=rfl;have es:∀q:Pln,slR tP (bL tP (B++[q])) 0 (0+6+1)=B++[q]:=λq=>by
  have:=gb6 tP (B++[q])
  rw[Qke,hB6] at this;exact this
 have eo:∀q:Pln,okS tP (bL tP (B++[q])) 0 (0+6+1)=true:=λq=>by
  have:=nb7 tP (B++[q])
  rw[Qke,hB6] at this;exact this
 have hlen:∀q:Pln,(B++[q]).length<=1000000000:=λq=>by rw[Qke,hB6];exact (by decide:6+1<=1000000000)
 have gF:∀q:Pln,Na8 (B++[q])=true:=λq=>me6 (hlen q)
 have pF:∀q:Pln,db0 (B++[q])=ful (B++[q]):=λq=>Xe9 (hlen q)
 have q1:Nat.ble ((0+6)*32) room=true:=ja4 (by omega)
 have q2:Nat.ble (((0+6)+1)*32) room=true:=ja4 (by omega)
 have q3:Nat.beq (0+6) 6=true:=rfl;have hp:=Ld5 L;have gf:eb6 (D5 L)=true:=me9 _ (by omega)
 simp only[hl6,ea,yc0,es,eo,gF,pF,q1,q2,q3,Qkr,gf,Ee3 (D5 L) (by omega),l9,show Nat.beq 6 0=false from rfl,Wa6]
 have box:Rd (one (r1L tP)) (some (eL tP B,[])) Ec8:=id5 hg;have fcs:(lc7 (D5 L)).2==0->Rd (one (r1L tP)) (some (eL tP (lc7 (D5 L)).1,[])) Ec8:=λh=>id5 (by
  unfold lc7 at h ⊢;by_cases h0:Oc0 (D5 L)=0
  ·rw[if_pos h0];exact if3 h0 hp.2
  ·rw[if_neg h0] at h;exact absurd (by simpa using h) h0)
 have hcut:ful (B++[Pa0 L])=true->Ec8 (B++[Pa0 L]):=λhf =>
  ⟨by rw[Qke,hB6];exact (by decide:6+1<=47),λp h=>by
   rcases List.mem_append.1 h with h|h
   ·exact hg.v p h
   ·rw[List.mem_singleton.1 h];exact Qf4 L,(zf7 hf).2.2⟩
 exact Rd.sl (λ_=>Rd.sl (λhf=>Ld3 (by rw[Qke,hB6];rfl) rfl (hcut hf)) λ_=>Rd.sl (λ_=>Rd.sl (λh=>fcs h) λ_=>box) λ_=>box) λ_=>Rd.sl (λ_=>Rd.sl (λh=>fcs h) λ_=>box) λ_=>box
theorem Ub8(x:List Int):Ec8 (k8 x):=(if4 x).p
theorem Ec8.pts{c:List Pln}(h:Ec8 c):pts c=cor (c++ws):=by unfold Ce.pts;rw[if_pos h.chk]
end Go.Ev.Ce
namespace Go.Ev.Ce
def G6(a b:V3):V3:=⟨a.x-b.x,a.y-b.y,a.z-b.z⟩
def N3(u w x:V3):V3:=d8 (G6 w u) (G6 x u)
def pc9:List V3->V3
 |[]=>⟨0,0,0⟩
 |v::l=>⟨v.x+(pc9 l).x,v.y+(pc9 l).y,v.z+(pc9 l).z⟩
def Yc6:List Int->Int
 |[]=>0
 |x::l=>x+Yc6 l
theorem Ee7(n:V3):∀l:List V3,dot n (pc9 l)=Yc6 (l.map (dot n))
 |[]=>by simp[pc9,Yc6,dot]
 |v::l=>by
  have:=Ee7 n l
  simp only[List.map_cons,Yc6,<- this];simp only[pc9,dot]
  grind
theorem Ee8(m s:Int):∀l:List Int,Yc6 (l.map λa=>m*a-s)=m*Yc6 l-s*l.length
 |[]=>by simp[Yc6]
 |a::l=>by
  have:=Ee8 m s l
  simp only[List.map_cons,Yc6,this,List.length_cons]
  grind
theorem od3:∀{l:List Int},(∀a∈l,a<=0)->Yc6 l<=0
 |[],_=>by simp[Yc6]
 |a::l,h=>by
  have:=od3 (l:=l) λx hx=>h x (Qkc _ hx)
  have:=h a Qkg
  simp only[Yc6];omega
theorem jd1:∀{l:List Int},(∀a∈l,a<=0)->Yc6 l=0->∀a∈l,a=0
 |[],_,_=>λa ha=>by cases ha
 |a::l,h,h0=>by
  have h1:=od3 (l:=l) λx hx=>h x (Qkc _ hx)
  have h2:=h a Qkg;simp only[Yc6] at h0;intro b hb
  rcases Qka.1 hb with rfl|hb
  ·omega
  ·exact jd1 (l:=l) (λx hx=>h x (Qkc _ hx)) (by omega) b hb
def Sol(l:List V3):Prop:=∃a c k v,a∈l/\c∈l/\k∈l/\v∈l/\dot (N3 a c k) (G6 v a)≠0
theorem Sol.off{l:List V3}(h:Sol l){n:V3}(hn:n≠⟨0,0,0⟩)(b:Int):∃v∈l,dot n v≠b:=by
 obtain⟨a,c,k,v,ha,hc,hk,hv,hd⟩:=h;by_cases h1:dot n a=b
 ·by_cases h2:dot n c=b
  ·by_cases h3:dot n k=b
   ·by_cases h4:dot n v=b
    ·exfalso;unfold N3 at hd;generalize hD:dot (d8 (G6 c a) (G6 k a)) (G6 v a)=D at *
     have q1:dot n (G6 c a)=0:=by unfold dot G6 at *;grind
     have q2:dot n (G6 k a)=0:=by unfold dot G6 at *;grind
     have q3:dot n (G6 v a)=0:=by unfold dot G6 at *;grind
     generalize G6 c a=p at *
     generalize G6 k a=q at *
     generalize G6 v a=r at *
     have i1:D*n.x=(d8 q r).x*dot n p+(d8 r p).x*dot n q+(d8 p q).x*dot n r:=by rw[<- hD];simp only[dot,d8];grind
     have i2:D*n.y=(d8 q r).y*dot n p+(d8 r p).y*dot n q+(d8 p q).y*dot n r:=by rw[<- hD];simp only[dot,d8];grind
     have i3:D*n.z=(d8 q r).z*dot n p+(d8 r p).z*dot n q+(d8 p q).z*dot n r:=by rw[<- hD];simp only[dot,d8];grind
     rw[q1,q2,q3] at i1 i2 i3;have z:∀{x:Int},D*x=0->x=0:=λh=>(Qkb.1 h).resolve_left hd
     exact hn (V3.ext' (z (by omega)) (z (by omega)) (z (by omega)))
    ·exact⟨v,hv,h4⟩
   ·exact⟨k,hk,h3⟩
  ·exact⟨c,hc,h2⟩
 ·exact⟨a,ha,h1⟩
theorem Sol.ne{l:List V3}(h:Sol l):∃v,v∈l:=by obtain⟨a,_,_,_,ha,_⟩:=h;exact⟨a,ha⟩
structure Fac(l:List V3)(n:V3)(b:Int):Prop where
 hd:∀v∈l,dot n v<=b
 on:∃u w x,u∈l/\w∈l/\x∈l/\N3 u w x≠⟨0,0,0⟩/\dot n u=b/\dot n w=b/\dot n x=b
def jg3(l:List V3)(c:List Pln):Prop:=∀n b,n≠⟨0,0,0⟩->Fac l n b->∃s t:Int,0<s/\0<t/\∃q∈c,t*q.n.x=s*n.x/\t*q.n.y=s*n.y/\t*q.n.z=s*n.z/\t*q.b=s*b
def pol(m:Int)(S v:V3):Pln:=⟨⟨m*v.x-S.x,m*v.y-S.y,m*v.z-S.z⟩,1⟩
theorem Qf5(m:Int)(S v d:V3):dot (pol m S v).n d=m*dot d v-dot d S:=by simp only[dot,pol];grind
theorem Ee9(l:List V3)(d:V3):Yc6 (l.map λv=>(l.length:Int)*dot d v-dot d (pc9 l))=0:=by
 have h:=Ee8 (l.length:Int) (dot d (pc9 l)) (l.map (dot d));rw[List.map_map] at h;have e:((λa=>(l.length:Int)*a-dot d (pc9 l))∘dot d)=λv=>(l.length:Int)*dot d v-dot d (pc9 l):=rfl
 rw[e] at h;rw[h,<- Ee7,List.length_map]
 grind
theorem ce2{a b:V3}(h:dot a b≠0):b≠⟨0,0,0⟩:=λe=>h (by subst e;simp[dot])
theorem Re0{a b:V3}(h:dot a b≠0):a≠⟨0,0,0⟩:=λe=>h (by subst e;simp[dot])
theorem Ze5{l:List V3}(h:Sol l):0<(l.length:Int):=by
 obtain⟨v,hv⟩:=h.ne
 have:=List.length_pos_of_mem hv
 omega
theorem Qf6{l:List V3}(h:Sol l):Bdd (l.map (pol l.length (pc9 l))):=λd hd=>by
 by_cases hh:∃p∈l.map (pol l.length (pc9 l)),0<dot p.n d
 ·exact hh
 exfalso;have hm:=Ze5 h;have hall:∀a∈l.map (λv=>(l.length:Int)*dot d v-dot d (pc9 l)),a<=0:=λa ha=>by
  obtain⟨v,hv,rfl⟩:=Qkj.1 ha;refine Int.not_lt.1 λh'=>hh ⟨pol l.length (pc9 l) v,Qkj.2 ⟨v,hv,rfl⟩,?_⟩
  rw[Qf5];omega
 have hz:=jd1 hall (Ee9 l d);obtain⟨a,ha⟩:=h.ne;obtain⟨v,hv,hne⟩:=h.off hd (dot d a);have e1:=hz _ (Qkj.2 ⟨a,ha,rfl⟩);have e2:=hz _ (Qkj.2 ⟨v,hv,rfl⟩);apply hne
 have:(l.length:Int)*(dot d v-dot d a)=0:=by grind
 have:=(Qkb.1 this).resolve_left (by omega)
 omega
theorem Cc0{l:List V3}(h4:Sol l){c:List Pln}(hc:jg3 l c){x:Pt}(hx:Inr c x){h:Pln}(hh:∀v∈l,dot h.n v<=h.b):0<=rmZ h x:=by
 have hm:=Ze5 h4;have hr:=Qf6 h4;generalize hS:pc9 l=S at hr;generalize hM:(l.length:Int)=m at hr hm
 -- the linear function on the polar
 have hv:∀y,Cn (l.map (pol m S)) y->0<=rmZ ⟨⟨m*x.px-x.pw*S.x,m*x.py-x.pw*S.y,m*x.pz-x.pw*S.z⟩,x.pw⟩ y:=λy hy=>by
  obtain⟨p1,p2,p3,hp1,hp2,hp3,hw,e1,e2,e3⟩:=hy.c;obtain⟨v1,m1,rfl⟩:=Qkj.1 hp1;obtain⟨v2,m2,rfl⟩:=Qkj.1 hp2;obtain⟨v3,m3,rfl⟩:=Qkj.1 hp3;have rp:∀v,rmZ (pol m S v) y=y.pw-(m*dot ⟨y.px,y.py,y.pz⟩ v-dot ⟨y.px,y.py,y.pz⟩ S):=λv=>by simp only[rmZ,pol,dot];grind
  rw[rp] at e1 e2 e3;have hn3:dot (pol m S v1).n (N3 v1 v2 v3)≠0:=λh0=>hw (by
   have:mw (pol m S v1) (pol m S v2) (pol m S v3)=m*m*dot (pol m S v1).n (N3 v1 v2 v3):=by simp only[mw,pol,dot,N3,d8,G6];grind
   rw[this,h0,Qkal])
  have hne:N3 v1 v2 v3≠⟨0,0,0⟩:=ce2 hn3;have hfac:Fac l ⟨m*y.px,m*y.py,m*y.pz⟩ (y.pw+dot ⟨y.px,y.py,y.pz⟩ S):=by
   have ed:∀v,dot ⟨m*y.px,m*y.py,m*y.pz⟩ v=m*dot ⟨y.px,y.py,y.pz⟩ v:=λv=>by simp only[dot];grind
   refine⟨λv hv=>?_,v1,v2,v3,m1,m2,m3,hne,?_,?_,?_⟩
   ·have:=hy.h (pol m S v) (Qkj.2 ⟨v,hv,rfl⟩)
    rw[rp] at this;rw[ed];omega
   ·rw[ed];omega
   ·rw[ed];omega
   ·rw[ed];omega
  have hyn:(⟨m*y.px,m*y.py,m*y.pz⟩:V3)≠⟨0,0,0⟩:=λe=>by
   have k:∀{a:Int},m*a=0->a=0:=λh=>(Qkb.1 h).resolve_left (by omega)
   simp only[V3.mk.injEq] at e;have a1:=k e.1;have a2:=k e.2.1;have a3:=k e.2.2;rw[a1,a2,a3] at e1;have hw:=hy.w;simp only[dot] at e1;simp only[Qkad,Int.add_zero,Qkal,Int.sub_zero] at e1;omega
  obtain⟨s,t,hs,ht,q,hq,f1,f2,f3,f4⟩:=hc _ _ hyn hfac;have hxq:=hx.h q hq;have e:t*rmZ q x=s*rmZ ⟨⟨m*x.px-x.pw*S.x,m*x.py-x.pw*S.y,m*x.pz-x.pw*S.z⟩,x.pw⟩ y:=by
   have:t*rmZ q x=(t*q.b)*x.pw-((t*q.n.x)*x.px+(t*q.n.y)*x.py+(t*q.n.z)*x.pz):=by simp only[rmZ];grind
   rw[this,f1,f2,f3,f4];simp only[rmZ,dot];grind
  have h1:=Qkf (Qkd ht) hxq;rw[e] at h1;exact Qkam h1 hs
 by_cases hn:h.n=⟨0,0,0⟩
 ·obtain⟨v,hv⟩:=h4.ne;have h1:=hh v hv;have e:rmZ h x=h.b*x.pw:=by simp only[rmZ,hn];grind
  rw[e];rw[hn] at h1;simp only[dot,Qkad,Int.add_zero] at h1;exact Qkf h1 (Qkd hx.w)
 ·-- the polar point of h
  have hall:∀a∈l.map (λv=>(l.length:Int)*dot h.n v-dot h.n (pc9 l)),a<=(l.length:Int)*h.b-dot h.n (pc9 l):=λa ha=>by
   obtain⟨v,hv,rfl⟩:=Qkj.1 ha
   have:=Qkac (hh v hv) (show 0<=(l.length:Int) by omega)
   omega
  have hpos:0<m*h.b-dot h.n S:=by
   rw[<- hM,<- hS];by_cases h0:0<(l.length:Int)*h.b-dot h.n (pc9 l)
   ·exact h0
   exfalso;have hz:=jd1 (λa ha=>by have:=hall a ha;omega) (Ee9 l h.n)
   obtain⟨v,hv,hne⟩:=h4.off hn h.b;have e1:=hz _ (Qkj.2 ⟨v,hv,rfl⟩);have h2:=hh v hv
   have:(l.length:Int)*dot h.n v<(l.length:Int)*h.b:=Int.mul_lt_mul_of_pos_left (by omega) (by omega)
   omega
  have hy:Inr (l.map (pol m S)) ⟨h.n.x,h.n.y,h.n.z,m*h.b-dot h.n S⟩:=⟨hpos,λp hp=>by
   obtain⟨v,hv,rfl⟩:=Qkj.1 hp;have e:rmZ (pol m S v) ⟨h.n.x,h.n.y,h.n.z,m*h.b-dot h.n S⟩=m*(h.b-dot h.n v):=by simp only[rmZ,pol,dot];grind
   rw[e];exact Qkf (by omega) (by have:=hh v hv;omega)⟩
  have h1:=Ia1 hr hv hy;have e:rmZ ⟨⟨m*x.px-x.pw*S.x,m*x.py-x.pw*S.y,m*x.pz-x.pw*S.z⟩,x.pw⟩ ⟨h.n.x,h.n.y,h.n.z,m*h.b-dot h.n S⟩=m*rmZ h x:=by simp only[rmZ,dot];grind
  rw[e] at h1;exact Qkam h1 hm
theorem ne6(own:List V3):(∃a c k,a∈own/\c∈own/\k∈own/\dot a (d8 c k)≠0)\/∃d,d≠(⟨0,0,0⟩:V3)/\∀n∈own,dot n d=0:=by
 by_cases h1:∃a∈own,a≠⟨0,0,0⟩
 ·obtain⟨a,ha,hne⟩:=h1;by_cases h2:∃c∈own,d8 a c≠⟨0,0,0⟩
  ·obtain⟨c,hc,hx⟩:=h2;by_cases h3:∃k∈own,dot k (d8 a c)≠0
   ·obtain⟨k,hk,h⟩:=h3;exact .inl ⟨k,a,c,hk,ha,hc,h⟩
   ·exact .inr ⟨d8 a c,hx,λn hn=>Qky λh=>h3 ⟨n,hn,h⟩⟩
  ·obtain⟨d,hd,h0⟩:=Pf6 hne;refine .inr ⟨d,hd,λn hn=>?_⟩
   have hc:d8 a n=⟨0,0,0⟩:=Qky λh=>h2 ⟨n,hn,h⟩
   have e:∀{s t:Int},s*t=0->s≠0->t=0:=λh hs=>(Qkb.1 h).resolve_left hs
   unfold d8 at hc;simp only[V3.mk.injEq] at hc;obtain⟨c1,c2,c3⟩:=hc;have k1:a.x*dot n d=0:=by
    have:a.x*dot n d=n.x*dot a d+(a.x*n.y-a.y*n.x)*d.y-(a.z*n.x-a.x*n.z)*d.z:=by simp only[dot];grind
    rw[this,h0,c3,c2];simp
   have k2:a.y*dot n d=0:=by
    have:a.y*dot n d=n.y*dot a d+(a.y*n.z-a.z*n.y)*d.z-(a.x*n.y-a.y*n.x)*d.x:=by simp only[dot];grind
    rw[this,h0,c1,c3];simp
   have k3:a.z*dot n d=0:=by
    have:a.z*dot n d=n.z*dot a d+(a.z*n.x-a.x*n.z)*d.x-(a.y*n.z-a.z*n.y)*d.y:=by simp only[dot];grind
    rw[this,h0,c2,c1];simp
   by_cases hx:a.x=0
   ·by_cases hy:a.y=0
    ·exact e k3 λhz=>hne (V3.ext' hx hy hz)
    ·exact e k2 hy
   ·exact e k1 hx
 ·exact .inr ⟨⟨1, 0, 0⟩, by simp, fun n hn => by
   have:n=⟨0,0,0⟩:=Qky λh=>h1 ⟨n,hn,h⟩
   rw[this];simp[dot]⟩
theorem big(d:V3):∀c:List Pln,∃N:Int,0<N/\∀p∈c,dot p.n d<=N/\-dot p.n d<=N
 |[]=>⟨1,by decide,λp hp=>by cases hp⟩
 |q::c=>by
  obtain⟨N,h0,h⟩:=big d c;refine⟨N+(dot q.n d).natAbs,by omega,λp hp=>?_⟩
  rcases Qka.1 hp with rfl|hp
  ·omega
  ·have:=h p hp;omega
theorem Yc7{p q s:Pln}(hw:mw p q s≠0){d:V3}(h1:dot p.n d=0)(h2:dot q.n d=0)(h3:dot s.n d=0):d=⟨0,0,0⟩:=by
 have i1:mw p q s*d.x=(d8 q.n s.n).x*dot p.n d+(d8 s.n p.n).x*dot q.n d+(d8 p.n q.n).x*dot s.n d:=by simp only[mw,dot,d8];grind
 have i2:mw p q s*d.y=(d8 q.n s.n).y*dot p.n d+(d8 s.n p.n).y*dot q.n d+(d8 p.n q.n).y*dot s.n d:=by simp only[mw,dot,d8];grind
 have i3:mw p q s*d.z=(d8 q.n s.n).z*dot p.n d+(d8 s.n p.n).z*dot q.n d+(d8 p.n q.n).z*dot s.n d:=by simp only[mw,dot,d8];grind
 rw[h1,h2,h3] at i1 i2 i3;have z:∀{x:Int},mw p q s*x=0->x=0:=λh=>(Qkb.1 h).resolve_left hw
 exact V3.ext' (z (by omega)) (z (by omega)) (z (by omega))
def Spn(c:List Pln)(v:V3):Prop:=∃p q s,p∈c/\q∈c/\s∈c/\mw p q s≠0/\dot p.n v=p.b/\dot q.n v=q.b/\dot s.n v=s.b
theorem Qf7{l:List V3}(h4:Sol l){c w:List Pln}(hc:jg3 l c)(hin:∀p∈c++w,∀v∈l,dot p.n v<=p.b){x:Pt}(hx:Cn (c++w) x):∃v∈l,Eqv x ⟨v.x,v.y,v.z,1⟩/\Spn c v:=by
 obtain⟨p,q,s,hp,hq,hs,hw,e1,e2,e3⟩:=hx.c;have hxc:Inr c x:=⟨hx.w,λa ha=>hx.h a (Qkaf _ ha)⟩
 have hv:∃v∈l,dot p.n v=p.b/\dot q.n v=q.b/\dot s.n v=s.b:=by
  apply Qky;intro hno;have h1:=Cc0 h4 hc hxc (h:=⟨⟨p.n.x+q.n.x+s.n.x,p.n.y+q.n.y+s.n.y,p.n.z+q.n.z+s.n.z⟩,p.b+q.b+s.b-1⟩) λv hv=>by
   have a1:=hin p hp v hv;have a2:=hin q hq v hv;have a3:=hin s hs v hv;have e:dot ⟨p.n.x+q.n.x+s.n.x,p.n.y+q.n.y+s.n.y,p.n.z+q.n.z+s.n.z⟩ v=dot p.n v+dot q.n v+dot s.n v:=by simp only[dot];grind
   simp only[e]
   have:¬ (dot p.n v=p.b/\dot q.n v=q.b/\dot s.n v=s.b):=λh=>hno ⟨v,hv,h⟩
   omega
  have e:rmZ ⟨⟨p.n.x+q.n.x+s.n.x,p.n.y+q.n.y+s.n.y,p.n.z+q.n.z+s.n.z⟩,p.b+q.b+s.b-1⟩ x=rmZ p x+rmZ q x+rmZ s x-x.pw:=by simp only[rmZ];grind
  rw[e,e1,e2,e3] at h1
  have:=hx.w
  omega
 obtain⟨v,hv,t1,t2,t3⟩:=hv;have hd:(⟨x.px-v.x*x.pw,x.py-v.y*x.pw,x.pz-v.z*x.pw⟩:V3)=⟨0,0,0⟩:=by
  have k:∀{a:Pln},dot a.n v=a.b->rmZ a x=0->dot a.n ⟨x.px-v.x*x.pw,x.py-v.y*x.pw,x.pz-v.z*x.pw⟩=0:=λ{a} h1 h2=>by
   rw[rmZ,<- h1] at h2;simp only[dot] at h2 ⊢
   grind
  exact Yc7 hw (k t1 e1) (k t2 e2) (k t3 e3)
 simp only[V3.mk.injEq] at hd;refine⟨v,hv,⟨?_,?_,?_⟩,?_⟩
 ·show x.px*1=v.x*x.pw;omega
 ·show x.py*1=v.y*x.pw;omega
 ·show x.pz*1=v.z*x.pw;omega
 -- the facets through it span the space
 have hf:∀a:Pln,decide (dot a.n v=a.b)=true↔dot a.n v=a.b:=λa=>by simp
 rcases ne6 ((c.filter λa=>decide (dot a.n v=a.b)).map Pln.n) with⟨a,b,k,ha',hb',hk',hd⟩|⟨d,hd,h0⟩
 ·obtain⟨a,ha,rfl⟩:=Qkj.1 ha';obtain⟨b,hb,rfl⟩:=Qkj.1 hb';obtain⟨k,hk,rfl⟩:=Qkj.1 hk';rw[List.mem_filter,hf] at ha hb hk;exact⟨a,b,k,ha.1,hb.1,hk.1,hd,ha.2,hb.2,hk.2⟩
 ·exfalso;obtain⟨N,hN,hb⟩:=big d c;have h0':∀a∈c,dot a.n v=a.b->dot a.n d=0:=λa ha h=>h0 a.n (Qkj.2 ⟨a,List.mem_filter.2 ⟨ha,by simpa using h⟩,rfl⟩)
  have iny:∀e:V3,(∀a∈c,dot a.n v=a.b->dot a.n e=0)->(∀a∈c,dot a.n e<=N)->Inr c ⟨N*v.x+e.x,N*v.y+e.y,N*v.z+e.z,N⟩:=λe he hle=>⟨hN,λa ha=>by
   have ea:rmZ a ⟨N*v.x+e.x,N*v.y+e.y,N*v.z+e.z,N⟩=N*(a.b-dot a.n v)-dot a.n e:=by simp only[rmZ,dot];grind
   rw[ea];have h1:=hin a (Qkaf _ ha) v hv;by_cases ht:dot a.n v=a.b
   ·rw[he a ha ht,ht];simp
   ·have h2:N*1<=N*(a.b-dot a.n v):=Qkac (by omega) (by omega)
    have:=hle a ha
    omega⟩
  have y1:=iny d h0' λa ha=>(hb a ha).1
  have y2:=iny (neg d) (λa ha h=>by rw[xd3,h0' a ha h];rfl) λa ha=>by rw[xd3];exact (hb a ha).2
  have z:∀a∈c++w,dot a.n v=a.b->dot a.n d=0:=λa ha ht=>by
   have a1:=Cc0 h4 hc y1 (h:=a) (hin a ha);have a2:=Cc0 h4 hc y2 (h:=a) (hin a ha);have e1:rmZ a ⟨N*v.x+d.x,N*v.y+d.y,N*v.z+d.z,N⟩=N*(a.b-dot a.n v)-dot a.n d:=by simp only[rmZ,dot];grind
   have e2:rmZ a ⟨N*v.x+(neg d).x,N*v.y+(neg d).y,N*v.z+(neg d).z,N⟩=N*(a.b-dot a.n v)+dot a.n d:=by simp only[rmZ,dot,neg];grind
   rw[e1,ht] at a1;rw[e2,ht] at a2;simp only[Int.sub_self,Qkal] at a1 a2;omega
  exact hd (Yc7 hw (z p hp t1) (z q hq t2) (z s hs t3))
end Go.Ev.Ce
namespace Go.Ev.Ce
open Go Go.Ev Go.Ev.L Go.Proofs
theorem Qf8{v:V3}(h:g3 v=0):v=⟨0,0,0⟩:=by
 unfold g3 at h;have h:Nat.gcd (Nat.gcd v.x.natAbs v.y.natAbs) v.z.natAbs=0:=by omega
 rw[Nat.gcd_eq_zero_iff,Nat.gcd_eq_zero_iff] at h;exact V3.ext' (by show v.x=0;omega) (by show v.y=0;omega) (by show v.z=0;omega)
theorem fc5{a c k:V3}(ha:inV a=true)(hc:inV c=true)(hk:inV k=true)(h:N3 a c k≠⟨0,0,0⟩):(A6 a c k).2=true:=by
 unfold A6;rw[ha,hc,hk];simp only[Qkr,if_true];rw[if_neg (λh0=>h (Qf8 h0):¬ g3 (d8 (sub c a) (sub k a))=0)]
theorem ce3{a c k:V3}{p:Pln}(h:Thr a c k p):N3 a c k≠⟨0,0,0⟩:=λe=>by
 obtain⟨ok,⟨g,hg,e1,e2,e3⟩,_⟩:=h;have e':d8 (sub c a) (sub k a)=⟨0,0,0⟩:=e;rw[e'] at e1 e2 e3;have z:∀{x:Int},g*x=0->x=0:=λh=>(Qkb.1 h).resolve_left (by omega)
 exact od2 ok (V3.ext' (z e1) (z e2) (z e3))
theorem Md5{a c k:V3}{p:Pln}(h:Thr a c k p):dot p.n a=p.b/\dot p.n c=p.b/\dot p.n k=p.b:=by
 obtain⟨ok,⟨g,hg,e1,e2,e3⟩,o⟩:=h;have z:∀{x y:Int},g*(x-y)=0->x=y:=λh=>by have:=(Qkb.1 h).resolve_left (by omega);omega
 refine⟨o.symm,?_,?_⟩
 ·rw[o];apply z
  have:g*(dot p.n c-dot p.n a)=(g*p.n.x)*(c.x-a.x)+(g*p.n.y)*(c.y-a.y)+(g*p.n.z)*(c.z-a.z):=by simp only[dot];grind
  rw[this,e1,e2,e3];simp only[d8,sub];grind
 ·rw[o];apply z
  have:g*(dot p.n k-dot p.n a)=(g*p.n.x)*(k.x-a.x)+(g*p.n.y)*(k.y-a.y)+(g*p.n.z)*(k.z-a.z):=by simp only[dot];grind
  rw[this,e1,e2,e3];simp only[d8,sub];grind
theorem Cc1(p:Pln)(v:V3):dot (ba4 p).n v=(ba4 p).b↔dot p.n v=p.b:=by
 rw[Yc5];show -dot p.n v=-p.b↔_;omega
theorem Md6{a c k:V3}{p q:Pln}(h:Thr a c k q)(hp:okp p=true)(t1:dot p.n a=p.b)(t2:dot p.n c=p.b)(t3:dot p.n k=p.b):p=q\/p=ba4 q:=by
 obtain⟨s1,s2,s3⟩:=Md5 h;obtain⟨ok,⟨g,hg,e1,e2,e3⟩,o⟩:=h;have d1:dot p.n (sub c a)=0:=by simp only[dot,sub] at *;grind
 have d2:dot p.n (sub k a)=0:=by simp only[dot,sub] at *;grind
 have hc:d8 q.n p.n=⟨0,0,0⟩:=by
  have z:∀{x:Int},g*x=0->x=0:=λh=>(Qkb.1 h).resolve_left (by omega)
  generalize sub c a=u at *
  generalize sub k a=w at *
  refine V3.ext' (z ?_) (z ?_) (z ?_)
  ·have:g*(d8 q.n p.n).x=(g*q.n.y)*p.n.z-(g*q.n.z)*p.n.y:=by simp only[d8];grind
   rw[this,e2,e3]
   have:(d8 u w).y*p.n.z-(d8 u w).z*p.n.y=w.x*dot p.n u-u.x*dot p.n w:=by simp only[d8,dot];grind
   rw[this,d1,d2];simp
  ·have:g*(d8 q.n p.n).y=(g*q.n.z)*p.n.x-(g*q.n.x)*p.n.z:=by simp only[d8];grind
   rw[this,e1,e3]
   have:(d8 u w).z*p.n.x-(d8 u w).x*p.n.z=w.y*dot p.n u-u.y*dot p.n w:=by simp only[d8,dot];grind
   rw[this,d1,d2];simp
  ·have:g*(d8 q.n p.n).z=(g*q.n.x)*p.n.y-(g*q.n.y)*p.n.x:=by simp only[d8];grind
   rw[this,e1,e2]
   have:(d8 u w).x*p.n.y-(d8 u w).y*p.n.x=w.z*dot p.n u-u.z*dot p.n w:=by simp only[d8,dot];grind
   rw[this,d1,d2];simp
 obtain⟨pn,pb⟩:=p;obtain⟨qn,qb⟩:=q
 rcases Ee5 (Md3 ok) (Md3 hp) hc with e|e
 ·left
  simp only at e o t1 s1 t2 t3
  subst e;rw[<- t1,s1]
 ·right
  simp only at e o t1 s1 t2 t3
  subst e;rw[<- t1];simp only[dot,neg,ba4] at s1 ⊢;simp only[Pln.mk.injEq,true_and]
  grind
structure Vd9(l:List V3)(p:Pln):Prop extends Fac l p.n p.b where
 ok:okp p=true
theorem Md7{l:List V3}{p:Pln}{u w x:V3}(hu:u∈l)(hw:w∈l)(hx:x∈l)(h:Thr u w x p)(hh:∀v∈l,dot (ba4 p).n v<=(ba4 p).b):Vd9 l (ba4 p):=by
 obtain⟨s1,s2,s3⟩:=Md5 h;exact⟨⟨hh,u,w,x,hu,hw,hx,ce3 h,(Cc1 p u).2 s1,(Cc1 p w).2 s2,(Cc1 p x).2 s3⟩,yc3 h.ok⟩
theorem ne7{l:List V3}{p:Pln}{u w x:V3}(hu:u∈l)(hw:w∈l)(hx:x∈l)(h:Thr u w x p)(hh:∀v∈l,dot p.n v<=p.b):Vd9 l p:=by
 obtain⟨s1,s2,s3⟩:=Md5 h;exact⟨⟨hh,u,w,x,hu,hw,hx,ce3 h,s1,s2,s3⟩,h.ok⟩
theorem Af6{u w x:V3}(h:N3 u w x≠⟨0,0,0⟩):N3 w u x≠⟨0,0,0⟩/\N3 u x w≠⟨0,0,0⟩/\N3 x w u≠⟨0,0,0⟩/\N3 w x u≠⟨0,0,0⟩/\N3 x u w≠⟨0,0,0⟩:=by
 have e1:N3 w u x=neg (N3 u w x):=V3.ext' (by simp only[N3,d8,G6,neg];grind) (by simp only[N3,d8,G6,neg];grind) (by simp only[N3,d8,G6,neg];grind)
 have e2:N3 u x w=neg (N3 u w x):=V3.ext' (by simp only[N3,d8,G6,neg];grind) (by simp only[N3,d8,G6,neg];grind) (by simp only[N3,d8,G6,neg];grind)
 have e3:N3 x w u=neg (N3 u w x):=V3.ext' (by simp only[N3,d8,G6,neg];grind) (by simp only[N3,d8,G6,neg];grind) (by simp only[N3,d8,G6,neg];grind)
 have e4:N3 w x u=N3 u w x:=V3.ext' (by simp only[N3,d8,G6];grind) (by simp only[N3,d8,G6];grind) (by simp only[N3,d8,G6];grind)
 have e5:N3 x u w=N3 u w x:=V3.ext' (by simp only[N3,d8,G6];grind) (by simp only[N3,d8,G6];grind) (by simp only[N3,d8,G6];grind)
 rw[e1,e2,e3,e4,e5];exact⟨ne2 h,ne2 h,ne2 h,h,h⟩
theorem wg0{u w x:V3}(h:N3 u w x≠⟨0,0,0⟩):u≠w/\u≠x/\w≠x:=by
 refine⟨λe=>h ?_,λe=>h ?_,λe=>h ?_⟩<;>subst e<;>refine V3.ext' ?_ ?_ ?_<;>simp only[N3,d8,G6]<;>grind
theorem jg4 {l : List V3} {u w x : V3} (hu : u ∈ l) (hw : w ∈ l) (hx : x ∈ l) (h : N3 u w x ≠ ⟨0, 0, 0⟩) :
  ∃a,a<l.length/\∃c,c<a/\∃k,k<c/\N3 (gL tV l a) (gL tV l c) (gL tV l k)≠⟨0,0,0⟩/\∀f:V3->Prop,f u->f w->f x->f (gL tV l a)/\f (gL tV l c)/\f (gL tV l k):=by
 obtain⟨i,hi,rfl⟩:=Qkan.1 hu;obtain⟨j,hj,rfl⟩:=Qkan.1 hw;obtain⟨k,hk,rfl⟩:=Qkan.1 hx;obtain⟨n1,n2,n3⟩:=wg0 h;obtain⟨s1,s2,s3,s4,s5⟩:=Af6 h;have d1:i≠j:=λe=>n1 (by subst e;rfl)
 have d2:i≠k:=λe=>n2 (by subst e;rfl)
 have d3:j≠k:=λe=>n3 (by subst e;rfl)
 rw[<- Ma0 tV hi,<- Ma0 tV hj,<- Ma0 tV hk] at *
 rcases Qkap d1 with h1|h1<;>rcases Qkap d2 with h2|h2<;>rcases Qkap d3 with h3|h3
 ·exact⟨k,hk,j,h3,i,h1,s3,λf a b c=>⟨c,b,a⟩⟩
 ·exact⟨j,hj,k,h3,i,h2,s4,λf a b c=>⟨b,c,a⟩⟩
 ·omega
 ·exact⟨j,hj,i,h1,k,h2,s1,λf a b c=>⟨b,a,c⟩⟩
 ·exact⟨k,hk,i,h2,j,h1,s5,λf a b c=>⟨c,a,b⟩⟩
 ·omega
 ·exact⟨i,hi,k,h2,j,h3,s2,λf a b c=>⟨a,c,b⟩⟩
 ·exact⟨i,hi,j,h1,k,h3,h,λf a b c=>⟨a,b,c⟩⟩
theorem Gb3{l:List V3}(hl:l.all inV=true)(p:Pln):p∈F0 l↔Vd9 l p:=by
 have hin:=Qkm.1 hl;constructor
 ·intro hp;obtain⟨a,ha,c,hc,k,hk,h1,h2⟩:=(Qe7 l p).1 hp;have ma:=gLm ha;have mc:=gLm (show c<l.length by omega)
  have mk:=gLm (show k<l.length by omega)
  have ht:=(oa5 h1).2
  rcases h2 with⟨rfl,h3⟩|⟨rfl,h3⟩
  ·exact ne7 ma mc mk ht ((mb0 ht.ok hl).1 h3)
  ·exact Md7 ma mc mk ht ((mb0 (yc3 ht.ok) hl).1 h3)
 ·intro h;obtain⟨u,w,x,hu,hw,hx,h3,t1,t2,t3⟩:=h.on;obtain⟨a,ha,c,hc,k,hk,hn,hall⟩:=jg4 hu hw hx h3;obtain⟨i1,i2,i3⟩:=hall (λv=>inV v=true) (hin u hu) (hin w hw) (hin x hx)
  obtain⟨e1,e2,e3⟩:=hall (λv=>dot p.n v=p.b) t1 t2 t3
  have h2:=fc5 i1 i2 i3 hn;refine (Qe7 l p).2 ⟨a,ha,c,hc,k,hk,h2,?_⟩;have hh:=(mb0 h.ok hl).2 h.hd
  rcases Md6 (oa5 h2).2 h.ok e1 e2 e3 with e|e
  ·exact .inl ⟨e,hh⟩
  ·exact .inr ⟨e,hh⟩
theorem Ze6{n:V3}(h:n≠⟨0,0,0⟩):0<dot n n:=by
 have sq:∀a:Int,0<=a*a:=λa=>by
  by_cases h:0<=a
  ·exact Qkf h h
  ·have:=Qkf (show 0<=-a by omega) (show 0<=-a by omega)
   rw[Int.neg_mul_neg] at this;exact this
 have z:∀{a:Int},a*a=0->a=0:=λh=>(Qkb.1 h).elim id id
 have s1:=sq n.x;have s2:=sq n.y;have s3:=sq n.z;by_cases h0:0<dot n n
 ·exact h0
 ·exfalso;simp only[dot] at h0;exact h (V3.ext' (z (by omega)) (z (by omega)) (z (by omega)))
theorem Ze7{l:List V3}(hl:l.all inV=true){c:List Pln}(hc:∀p,Vd9 l p->p∈c):jg3 l c:=λn b hn hf=>by
 have hin:=Qkm.1 hl;obtain⟨u,w,x,hu,hw,hx,h3,t1,t2,t3⟩:=hf.on;have h2:=fc5 (hin u hu) (hin w hw) (hin x hx) h3;have ht:=(oa5 h2).2;generalize (A6 u w x).1=q at ht;obtain⟨s1,s2,s3⟩:=Md5 ht;have hnn:=Ze6 hn;have d1:dot n (G6 w u)=0:=by simp only[dot,G6] at *;grind
 have d2:dot n (G6 x u)=0:=by simp only[dot,G6] at *;grind
 -- the normals are parallel
 have par:dot n n*q.n.x=dot q.n n*n.x/\dot n n*q.n.y=dot q.n n*n.y/\dot n n*q.n.z=dot q.n n*n.z:=by
  obtain⟨ok,⟨g,hg,e1,e2,e3⟩,o⟩:=ht;have z:∀{x y:Int},g*(x-y)=0->x=y:=λh=>by have:=(Qkb.1 h).resolve_left (by omega);omega
  have eg:g*dot q.n n=(d8 (G6 w u) (G6 x u)).x*n.x+(d8 (G6 w u) (G6 x u)).y*n.y+(d8 (G6 w u) (G6 x u)).z*n.z:=by
   have:g*dot q.n n=(g*q.n.x)*n.x+(g*q.n.y)*n.y+(g*q.n.z)*n.z:=by simp only[dot];grind
   rw[this,e1,e2,e3];rfl
  have e1:g*q.n.x=(d8 (G6 w u) (G6 x u)).x:=e1;have e2:g*q.n.y=(d8 (G6 w u) (G6 x u)).y:=e2;have e3:g*q.n.z=(d8 (G6 w u) (G6 x u)).z:=e3;generalize G6 w u=p at *
  generalize G6 x u=r at *
  refine⟨z ?_,z ?_,z ?_⟩
  ·have:g*(dot n n*q.n.x-dot q.n n*n.x)=dot n n*(g*q.n.x)-(g*dot q.n n)*n.x:=by grind
   rw[this,e1,eg]
   have:dot n n*(d8 p r).x-((d8 p r).x*n.x+(d8 p r).y*n.y+(d8 p r).z*n.z)*n.x=(n.y*r.z-n.z*r.y)*dot n p-(n.y*p.z-n.z*p.y)*dot n r:=by simp only[dot,d8];grind
   rw[this,d1,d2];simp
  ·have:g*(dot n n*q.n.y-dot q.n n*n.y)=dot n n*(g*q.n.y)-(g*dot q.n n)*n.y:=by grind
   rw[this,e2,eg]
   have:dot n n*(d8 p r).y-((d8 p r).x*n.x+(d8 p r).y*n.y+(d8 p r).z*n.z)*n.y=(n.z*r.x-n.x*r.z)*dot n p-(n.z*p.x-n.x*p.z)*dot n r:=by simp only[dot,d8];grind
   rw[this,d1,d2];simp
  ·have:g*(dot n n*q.n.z-dot q.n n*n.z)=dot n n*(g*q.n.z)-(g*dot q.n n)*n.z:=by grind
   rw[this,e3,eg]
   have:dot n n*(d8 p r).z-((d8 p r).x*n.x+(d8 p r).y*n.y+(d8 p r).z*n.z)*n.z=(n.x*r.y-n.y*r.x)*dot n p-(n.x*p.y-n.y*p.x)*dot n r:=by simp only[dot,d8];grind
   rw[this,d1,d2];simp
 have fin:∀r:Pln,Thr u w x q->(r=q\/r=ba4 q)->0<dot r.n n->(dot n n*r.n.x=dot r.n n*n.x/\dot n n*r.n.y=dot r.n n*n.y/\dot n n*r.n.z=dot r.n n*n.z)->∃s t:Int,0<s/\0<t/\∃q∈c,t*q.n.x=s*n.x/\t*q.n.y=s*n.y/\t*q.n.z=s*n.z/\t*q.b=s*b:=λr ht hr hp ⟨p1,p2,p3⟩=>by
  have hru:dot r.n u=r.b:=by
   rcases hr with rfl|rfl
   ·exact s1
   ·exact (Cc1 q u).2 s1
  have ed:∀v,dot n n*dot r.n v=dot r.n n*dot n v:=λv=>by
   have:dot n n*dot r.n v=(dot n n*r.n.x)*v.x+(dot n n*r.n.y)*v.y+(dot n n*r.n.z)*v.z:=by
    generalize dot n n=t;simp only[dot];grind
   rw[this,p1,p2,p3];generalize dot r.n n=s;simp only[dot];grind
  have eb:dot n n*r.b=dot r.n n*b:=by rw[<- hru,ed,t1]
  have hd:∀v∈l,dot r.n v<=r.b:=λv hv=>by
   have h1:=Qkac (hf.hd v hv) (Qkd hp);rw[<- ed,<- eb] at h1;exact Int.le_of_mul_le_mul_left h1 hnn
  have hF:Vd9 l r:=by
   rcases hr with rfl|rfl
   ·exact ne7 hu hw hx ht hd
   ·exact Md7 hu hw hx ht hd
  exact⟨dot r.n n,dot n n,hp,hnn,r,hc r hF,p1,p2,p3,eb⟩
 by_cases h0:0<dot q.n n
 ·exact fin q ht (.inl rfl) h0 par
 ·refine fin (ba4 q) ht (.inr rfl) ?_ ?_
  ·rw[Yc5]
   have:dot q.n n≠0:=λe=>by
    obtain⟨p1,p2,p3⟩:=par;rw[e] at p1 p2 p3;simp only[Qkad] at p1 p2 p3;have z:∀{x:Int},dot n n*x=0->x=0:=λh=>(Qkb.1 h).resolve_left (by omega)
    exact od2 ht.ok (V3.ext' (z p1) (z p2) (z p3))
   omega
  ·rw[Yc5];obtain⟨p1,p2,p3⟩:=par;show dot n n*-q.n.x=_/\dot n n*-q.n.y=_/\dot n n*-q.n.z=_;rw[Qkaj,Qkaj,Qkaj,p1,p2,p3,Qkav,Qkav,Qkav];exact⟨rfl,rfl,rfl⟩
end Go.Ev.Ce
