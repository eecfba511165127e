/- Own work. -/
import Derived.Test.YtgphembaimondaaGreatDoorEvOjE9
set_option linter.all false
noncomputable section
def Qja:=@Int.mul_eq_zero
def Qjb:=@Int.mul_nonneg
def Qjc:=@Int.le_of_lt
def Qjd:=@List.any_eq_true
def Qje:=@List.pairwise_cons
def Qjf:=@Nat.gcd_dvd_left
def Qjg:=@Bool.and_self
def Qjh:=@Nat.gcd_dvd_right
def Qji:=@Int.natCast_dvd_natCast
def Qjj:=@Nat.dvd_trans
def Qjk:=@Int.mul_nonpos_of_nonneg_of_nonpos
def Qjl:=@Int.mul_le_mul_of_nonneg_right
def Qjm:=@Int.zero_mul
def Qjn:=@Int.mul_tdiv_cancel'
def Qjo:=@Int.mul_pos
def Qjp:=@Int.dvd_natAbs
def Qjq:=@Int.mul_neg
def Qjr:=@List.take_succ_eq_append_getElem
def Qjs:=@List.not_mem_nil
def Qjt:=@Bool.not_eq_true
def Qju:=@Int.nonneg_of_mul_nonneg_right
def Qjv:=@Int.mul_le_mul_of_nonneg_left
def Qjw:=@List.take_append_of_le_length
def Qjx:=@Nat.lt_or_gt_of_ne
def Qjy:=@List.findIdx_cons
def Qjz:=@List.append_assoc
def Qjaa:=@Int.eq_of_mul_eq_mul_left
def Qjab:=@Int.mul_zero
def Qjac:=@List.pairwise_mergeSort
def Qjad:=@List.pairwise_singleton
def Qjae:=@Int.neg_mul
def Qjaf:=@List.drop_eq_nil_of_le
namespace Go.Ev.Ce
open Go Go.Ev Go.Ev.L Go.Proofs
def onc(X:List Pt)(p:Pln):Nat:=X.countP λx=>rm p x==0
def keep(X:List Pt)(p:Pln):Bool:=!decide ((onc X p:Int)<3)
theorem Zb8{α:Type}(c:α->Bool):∀l:List α,(l.take (l.findIdx c)).filter (λx=>!c x)=l.take (l.findIdx c)
 |[]=>rfl
 |x::l=>by
  rw[Qjy];cases h:c x with
  |true=>rfl
  |false =>
   simp only[cond_false,List.take_succ_cons,List.filter_cons,h,Bool.not_false,if_true];rw[Zb8 c l]
theorem Fd2{α:Type}(l:List α)(j:Nat)(h:j<l.length):l.take (j+1)=l.take j++[l[j]]:=by rw[Qjr h]
theorem Hb7{α:Type}(t:Ty α){l:List α}{j:Nat}(h:j<l.length):l.take (j+1)=l.take j++[gL t l j]:=by rw[Fd2 l j h,La6 t h]
theorem jc8{α:Type}(t:Ty α){l r:List α}{j:Nat}(h:l.drop j=r.drop j):gL t l j=gL t r j:=by
 have h1:=ed9 t l j 0;have h2:=ed9 t r j 0;rw[Nat.add_zero] at h1 h2;rw[<- h1,<- h2,h]
theorem Zb9{α:Type}{l r:List α}{j:Nat}(h:l.drop j=r.drop j)(k:Nat):l.drop (j+k)=r.drop (j+k):=by rw[<- List.drop_drop,<- List.drop_drop,h]
structure Del(l:PLq)(f:Pln->Bool)(cur:PLq)(m j:Nat):Prop where
 len:cur.length=l.length
 t:cur.take m=(l.take j).filter f
 d:cur.drop j=l.drop j
 le:m<=j
 lm:m<=l.length
theorem Ce9(l:PLq)(n:Nat):i9 (bL tP l) n=bL tP (l.drop n):=by unfold bL;rw[v7,k9,k9,List.map_drop]
def eqP(x y:Pln):Bool:=x.n.x==y.n.x&&(x.n.y==y.n.y&&(x.n.z==y.n.z&&(x.b==y.b&&true)))
theorem ac0(x y:Pln):eqP x y=true↔x=y:=by
 unfold eqP;simp only[Qia,Qbd,beq_iff_eq];refine⟨λ⟨h1,h2,h3,h4⟩=>?_,λh=>by subst h;exact⟨rfl,rfl,rfl,rfl⟩⟩
 obtain⟨⟨x1,x2,x3⟩,x4⟩:=x;obtain⟨⟨y1,y2,y3⟩,y4⟩:=y
 simp only at h1 h2 h3 h4
 subst h1 h2 h3 h4;rfl
def ddF:Pln->PLq->PLq
 |_,[]=>[]
 |a,x::l=>if eqP x a then ddF x l else x::ddF x l
def dd:PLq->PLq
 |[]=>[]
 |x::l=>x::ddF x l
structure Cmp(l:PLq)(n:Nat)(cur:PLq)(m j:Nat)(R:PLq):Prop where
 len:cur.length=l.length
 t:cur.take m++ddF (gL tP l (j-1)) ((l.take n).drop j)=R
 d:cur.drop (j-1)=l.drop (j-1)
 le:m+1<=j
theorem le3(l:PLq)(n:Nat)(hn:n<=l.length):slR tP (bL tP l) 0 n=l.take n:=zc7 tP (by rw[Qif];omega) λk hk=>by
 rw[Qbh,W0 tP (by omega)]
 congr 1;simp[gL,Qda,Qbe,hk]
theorem le4(l:PLq)(n:Nat)(hn:n<=l.length):okS tP (bL tP l) 0 n=true:=Na4 tP (f:=λk=>gL tP l k) λk hk=>by rw[Qbh,W0 tP (by omega)]
end Go.Ev.Ce
namespace Go.Ev.Ce
open Go Go.Ev Go.Ev.L Go.Proofs Go.Sort
theorem Ic6(l:PLq):List.Perm (Lb4 l) l:=List.mergeSort_perm l _
theorem Xd3(x y z:Pln)(h1:(!ltOf ba6 y x)=true)(h2:(!ltOf ba6 z y)=true):(!ltOf ba6 z x)=true:=by
 simp only[Qdb,Ha4,decide_eq_false_iff_not] at *
 unfold LtP at *
 omega
theorem Xd4(x y:Pln):((!ltOf ba6 y x)||!ltOf ba6 x y)=true:=by
 simp only[Qdf,Qdb,Ha4,decide_eq_false_iff_not];unfold LtP;omega
theorem fd5(l:PLq):(Lb4 l).Pairwise λx y=>(!ltOf ba6 y x)=true:=Qjac Xd3 Xd4 l
instance:DecidableEq Pln:=λx y=>decidable_of_iff _ (ac0 x y)
def PC:List Pt:=[⟨0,0,0,1⟩,⟨0,0,1,4⟩,⟨0,1,0,3⟩,⟨1,0,0,2⟩]
end Go.Ev.Ce
namespace Go.Ev.Ce
open Go Go.Ev Go.Ev.L Go.Proofs
theorem De0(p q:Pln):ca3 p q=some (i (ba6 p q),[]):=by
 have key:∃t s,lp (B1 ⟨p.n.x,p.n.y,p.n.z,p.b,q.n.x,q.n.y,q.n.z,q.b⟩) ⟨0⟩=(t,s)/\((t=1/\ba6 p q=-1)\/(t=2/\ba6 p q=1)\/(t=3/\ba6 p q=0)):=by
  refine L7 (step:=B1 ⟨p.n.x,p.n.y,p.n.z,p.b,q.n.x,q.n.y,q.n.z,q.b⟩) (mk:=λj (_:Unit)=>(⟨(j:Int)⟩:H9)) 4
   (λj _=>(1<=j->p.n.x=q.n.x)/\(2<=j->p.n.y=q.n.y)/\(3<=j->p.n.z=q.n.z)/\(4<=j->p.b=q.b))
   (λt s=>(t=1/\ba6 p q=-1)\/(t=2/\ba6 p q=1)\/(t=3/\ba6 p q=0)) (by omega) (λj x hj hI=>?_) (λj x hj hI=>?_) 0 () ⟨by omega,by omega,by omega,by omega⟩
  ·have hn:=n7 hj (show 4<=4611686018427387904 by omega)
   simp only[B1,Q9,Int.toNat_natCast,hn];have hlt:(j:Int)<4:=by omega
   have hin:=g7 hj;have g:∀x1 x2 x3 x4:Int,((Nat.ble ((0+(j*1))+1) 4)&&(ma4 [CK.int .i64] (i9 [i x1,i x2,i x3,i x4] (0+(j*1)))))=true:=by
    intro x1 x2 x3 x4
    match j,hj with
    |0,_=>rfl
    |1,_=>rfl
    |2,_=>rfl
    |3,_=>rfl
   rw[btD hlt];simp only[hin,g,l0];obtain⟨i1,i2,i3,i4⟩:=hI
   match j,hj with
   |0,_ =>
    show Nx (sl (decide (p.n.x<q.n.x)) _ (sl (decide (p.n.x>q.n.x)) _ _)) _ _;refine Nx.sl (λh=>.ex ?_) λh=>Nx.sl (λh'=>.ex ?_) λh'=>.nx ⟨(),rfl,?_⟩<;>simp only[decide_eq_true_eq,decide_eq_false_iff_not] at h
    ·left;exact⟨rfl,by simp[ba6,Aa0,h]⟩
    ·right;left;simp only[decide_eq_true_eq] at h';exact⟨rfl,by simp[ba6,Aa0,h,h']⟩
    ·simp only[decide_eq_false_iff_not] at h';exact⟨by omega,by omega,by omega,by omega⟩
   |1,_ =>
    have j1:=i1 (by omega)
    show Nx (sl (decide (p.n.y<q.n.y)) _ (sl (decide (p.n.y>q.n.y)) _ _)) _ _;refine Nx.sl (λh=>.ex ?_) λh=>Nx.sl (λh'=>.ex ?_) λh'=>.nx ⟨(),rfl,?_⟩<;>simp only[decide_eq_true_eq,decide_eq_false_iff_not] at h
    ·left;exact⟨rfl,by simp[ba6,Aa0,h,j1]⟩
    ·right;left;simp only[decide_eq_true_eq] at h';exact⟨rfl,by simp[ba6,Aa0,h,h',j1]⟩
    ·simp only[decide_eq_false_iff_not] at h';exact⟨λ_=>j1,by omega,by omega,by omega⟩
   |2,_ =>
    have j1:=i1 (by omega);have j2:=i2 (by omega)
    show Nx (sl (decide (p.n.z<q.n.z)) _ (sl (decide (p.n.z>q.n.z)) _ _)) _ _;refine Nx.sl (λh=>.ex ?_) λh=>Nx.sl (λh'=>.ex ?_) λh'=>.nx ⟨(),rfl,?_⟩<;>simp only[decide_eq_true_eq,decide_eq_false_iff_not] at h
    ·left;exact⟨rfl,by simp[ba6,Aa0,h,j1,j2]⟩
    ·right;left;simp only[decide_eq_true_eq] at h';exact⟨rfl,by simp[ba6,Aa0,h,h',j1,j2]⟩
    ·simp only[decide_eq_false_iff_not] at h';exact⟨λ_=>j1,λ_=>j2,by omega,by omega⟩
   |3,_ =>
    have j1:=i1 (by omega);have j2:=i2 (by omega);have j3:=i3 (by omega)
    show Nx (sl (decide (p.b<q.b)) _ (sl (decide (p.b>q.b)) _ _)) _ _;refine Nx.sl (λh=>.ex ?_) λh=>Nx.sl (λh'=>.ex ?_) λh'=>.nx ⟨(),rfl,?_⟩<;>simp only[decide_eq_true_eq,decide_eq_false_iff_not] at h
    ·left;exact⟨rfl,by simp[ba6,Aa0,h,j1,j2,j3]⟩
    ·right;left;simp only[decide_eq_true_eq] at h';exact⟨rfl,by simp[ba6,Aa0,h,h',j1,j2,j3]⟩
    ·simp only[decide_eq_false_iff_not] at h';exact⟨λ_=>j1,λ_=>j2,λ_=>j3,by omega⟩
  ·simp only[B1,Q9];rw[bfD (by omega)]
   obtain⟨i1,i2,i3,i4⟩:=hI;have j1:=i1 (by omega);have j2:=i2 (by omega);have j3:=i3 (by omega);have j4:=i4 (by omega)
   exact⟨_,rfl,.inr (.inr ⟨rfl,by simp[ba6,Aa0,j1,j2,j3,j4]⟩)⟩
 obtain⟨t,s,h1,h2⟩:=key;unfold ca3
 simp only
 rw[h1]
 rcases h2 with⟨rfl,e⟩|⟨rfl,e⟩|⟨rfl,e⟩<;>rw[e]<;>rfl
theorem af1(p q:Pln):ca4 p q=ba6 p q:=by unfold ca4;rw[De0];rfl
def atP(x:PLq)(y:Pln):Nat:=x.findIdx λp=>!decide (ba6 p y<0)
def ins(x:PLq)(y:Pln):PLq:=if (atP x y<x.length/\eqP (gL tP x (atP x y)) y=true) then x else Jb6 x y (atP x y)
def Ea5(l:PLq):Prop:=l.Pairwise LtP
theorem Vc5{x y z:Pln}(h1:LtP x y)(h2:LtP y z):LtP x z:=by unfold LtP at *;omega
theorem vc8(x:Pln):¬ LtP x x:=by unfold LtP;omega
theorem Nd8(x y:Pln):LtP x y\/x=y\/LtP y x:=by
 by_cases h1:LtP x y
 ·exact .inl h1
 ·by_cases h2:LtP y x
  ·exact .inr (.inr h2)
  ·refine .inr (.inl ?_);unfold LtP at h1 h2;have e1:x.n.x=y.n.x:=by omega
   have e2:x.n.y=y.n.y:=by omega
   have e3:x.n.z=y.n.z:=by omega
   have e4:x.b=y.b:=by omega
   cases x with | mk n b=>cases y with | mk m c=>cases n;cases m;simp_all
theorem Vc6:∀{l r:PLq},Ea5 l->Ea5 r->(∀p,p∈l↔p∈r)->l=r
 |[],[],_,_,_=>rfl
 |[],b::r,_,_,h=>by have:=(h b).2 Qck;cases this
 |a::l,[],_,_,h=>by have:=(h a).1 Qck;cases this
 |a::l,b::r,hl,hr,h=>by
  obtain⟨hl1,hl2⟩:=Qje.1 hl;obtain⟨hr1,hr2⟩:=Qje.1 hr;have hab:a=b:=by
   rcases Qbp.1 ((h a).1 Qck) with e|h1
   ·exact e
   ·rcases Qbp.1 ((h b).2 Qck) with e|h2
    ·exact e.symm
    ·exact absurd (Vc5 (hr1 a h1) (hl1 b h2)) (vc8 b)
  subst hab;rw[Vc6 hl2 hr2 λp=>?_]
  constructor
  ·intro hp
   rcases Qbp.1 ((h p).1 (Qcn _ hp)) with e|h1
   ·subst e;exact absurd (hl1 p hp) (vc8 p)
   ·exact h1
  ·intro hp
   rcases Qbp.1 ((h p).2 (Qcn _ hp)) with e|h1
   ·subst e;exact absurd (hr1 p hp) (vc8 p)
   ·exact h1
def ab2:PLq->Pln->PLq
 |[],y=>[y]
 |a::l,y=>if ba6 a y<0 then a::ab2 l y else if eqP a y then a::l else y::a::l
theorem le5(y:Pln):∀x,ins x y=ab2 x y
 |[]=>rfl
 |a::l=>by
  have ih:=le5 y l;unfold ab2;by_cases h:ba6 a y<0
  ·rw[if_pos h,<- ih];have e:atP (a::l) y=atP l y+1:=by unfold atP;rw[Qjy];simp[h]
   unfold ins;rw[e];have e2:gL tP (a::l) (atP l y+1)=gL tP l (atP l y):=rfl;rw[e2];simp only[List.length_cons,Nat.add_lt_add_iff_right];split
   ·rfl
   ·rfl
  ·rw[if_neg h];have e:atP (a::l) y=0:=by unfold atP;rw[Qjy];simp[h]
   unfold ins;rw[e];have e2:gL tP (a::l) 0=a:=rfl;rw[e2];simp only[List.length_cons,Nat.zero_lt_succ,true_and];split
   ·rfl
   ·rfl
theorem nb8(y p:Pln):∀x,p∈ab2 x y↔p=y\/p∈x
 |[]=>by simp[ab2]
 |a::l=>by
  unfold ab2;have ih:=nb8 y p l;split
  ·simp only[Qbp,ih];constructor
   ·rintro (h|h|h)
    ·exact .inr (.inl h)
    ·exact .inl h
    ·exact .inr (.inr h)
   ·rintro (h|h|h)
    ·exact .inr (.inl h)
    ·exact .inl h
    ·exact .inr (.inr h)
  ·split
   ·rename_i h;rw[ac0] at h;subst h;simp only[Qbp];constructor
    ·exact λh=>.inr h
    ·rintro (h|h)
     ·exact .inl h
     ·exact h
   ·simp only[Qbp]
theorem ac4(y:Pln):∀{x},Ea5 x->Ea5 (ab2 x y)
 |[],_=>Qjad _ _
 |a::l,h=>by
  obtain⟨h1,h2⟩:=Qje.1 h;unfold ab2;split
  ·rename_i hc;rw[dd2] at hc;refine Qje.2 ⟨λp hp=>?_,ac4 y h2⟩
   rcases (nb8 y p l).1 hp with e|hp
   ·subst e;exact hc
   ·exact h1 p hp
  ·rename_i hc;rw[dd2] at hc;split
   ·exact h
   ·rename_i hne;have hlt:LtP y a:=by
     rcases Nd8 y a with h|h|h
     ·exact h
     ·exact absurd ((ac0 _ _).2 h.symm) hne
     ·exact absurd h hc
    refine Qje.2 ⟨λp hp=>?_,h⟩
    rcases Qbp.1 hp with e|hp
    ·subst e;exact hlt
    ·exact Vc5 hlt (h1 p hp)
theorem Nd9{σ:Type}{step:σ->Stp σ}{s:σ}{t:Nat}(h:step s=.exit t):lp step s=(t,s):=by rw[ce5];exact zc5 h
theorem Xd5:Lb4 []=[]:=Qbk (Hb2 [])
end Go.Ev.Ce
namespace Go.Ev.Ce
def rmZ(p:Pln)(x:Pt):Int:=p.b*x.pw-(p.n.x*x.px+p.n.y*x.py+p.n.z*x.pz)
structure Inr(r:List Pln)(x:Pt):Prop where
 w:0<x.pw
 h:∀p∈r,0<=rmZ p x
def Y4(p:Pln):Pln:=⟨⟨-p.n.x,-p.n.y,-p.n.z⟩,-p.b⟩
theorem td9(p:Pln)(x:Pt):rmZ (Y4 p) x=-rmZ p x:=by unfold rmZ Y4;grind
structure Cn(r:List Pln)(x:Pt):Prop extends Inr r x where
 c:∃p q s,p∈r/\q∈r/\s∈r/\mw p q s≠0/\rmZ p x=0/\rmZ q x=0/\rmZ s x=0
def Bdd(r:List Pln):Prop:=∀d:V3,d≠⟨0,0,0⟩->∃p∈r,0<dot p.n d
def go(x:Pt)(q:Pln)(d:V3):Pt:=⟨x.px*dot q.n d+rmZ q x*d.x,x.py*dot q.n d+rmZ q x*d.y,x.pz*dot q.n d+rmZ q x*d.z,x.pw*dot q.n d⟩
theorem Od0(p q:Pln)(x:Pt)(d:V3):rmZ p (go x q d)=dot q.n d*rmZ p x-rmZ q x*dot p.n d:=by simp only[rmZ,go,dot];grind
theorem Ka0{a b c:Int}(hc:0<c)(h:a*c<=b*c):a<=b:=Int.le_of_mul_le_mul_right h hc
theorem first(x:Pt)(d:V3):∀r:List Pln,(∀p∈r,0<=rmZ p x)->(∃p∈r,0<dot p.n d)->∃q∈r,0<dot q.n d/\∀p∈r,0<dot p.n d->rmZ q x*dot p.n d<=rmZ p x*dot q.n d
 |[],_,h=>by obtain⟨p,hp,_⟩:=h;cases hp
 |a::r,hx,h=>by
  by_cases hr:∃p∈r,0<dot p.n d
  ·obtain⟨q,hq,h1,h2⟩:=first x d r (λp hp=>hx p (Qcn _ hp)) hr
   by_cases ha:0<dot a.n d
   ·by_cases hc:rmZ q x*dot a.n d<=rmZ a x*dot q.n d
    ·grind
    ·refine⟨a,Qck,ha,λp hp h3=>?_⟩
     rcases Qbp.1 hp with rfl|hp
     ·exact Int.le_refl _
     ·have h4:=h2 p hp h3;have h5:rmZ a x*dot q.n d<rmZ q x*dot a.n d:=by omega
      have h6:=Qjl h4 (Qjc ha);have h7:=Int.mul_lt_mul_of_pos_right h5 h3;have e1:rmZ q x*dot p.n d*dot a.n d=rmZ q x*dot a.n d*dot p.n d:=by grind
      have e2:rmZ a x*dot q.n d*dot p.n d=rmZ a x*dot p.n d*dot q.n d:=by grind
      have e3:rmZ p x*dot q.n d*dot a.n d=rmZ p x*dot a.n d*dot q.n d:=by grind
      refine Ka0 h1 ?_;omega
   grind
  grind
theorem step{r:List Pln}{x:Pt}(hx:Inr r x)(d:V3)(h:∃p∈r,0<dot p.n d):∃q∈r,0<dot q.n d/\Inr r (go x q d):=by
 obtain⟨q,hq,h1,h2⟩:=first x d r hx.h h;refine⟨q,hq,h1,⟨Qjo hx.w h1,λp hp=>?_⟩⟩
 rw[Od0];have h3:=hx.h p hp;have h4:=hx.h q hq;by_cases h5:0<dot p.n d
 ·grind
 ·have h6:=Qjb (Qjc h1) h3;have h7:rmZ q x*dot p.n d<=0:=Qjk h4 (by omega)
  omega
theorem le6{h q:Pln}{x:Pt}{d:V3}(h1:0<=rmZ q x)(h2:0<=dot h.n d):rmZ h (go x q d)*x.pw<=rmZ h x*(go x q d).pw\/x.pw<=0:=by
 rcases Int.lt_or_le 0 x.pw with hw|hw
 ·left;rw[Od0]
  have:=Qjb h1 h2
  have h3:=Qjb this (Qjc hw);have e:rmZ h x*(go x q d).pw=dot q.n d*rmZ h x*x.pw:=by unfold go;grind
  grind
 ·exact .inr hw
def neg(d:V3):V3:=⟨-d.x,-d.y,-d.z⟩
theorem Od1(a d:V3):dot a (neg d)=-dot a d:=by unfold dot neg;grind
theorem fd6{d:V3}(h:d≠⟨0,0,0⟩):neg d≠⟨0,0,0⟩:=λh'=>h (by
 cases d;unfold neg at h';simp only[V3.mk.injEq] at h' ⊢;omega)
theorem turn(h:Pln){d:V3}(hd:d≠⟨0,0,0⟩):∃e,e≠(⟨0,0,0⟩:V3)/\0<=dot h.n e/\∀a,dot a d=0->dot a e=0:=by
 by_cases h1:0<=dot h.n d
 ·grind
 ·exact⟨neg d,fd6 hd,by rw[Od1];omega,λa h=>by rw[Od1,h];rfl⟩
theorem Kf4{n:V3}(hn:n≠⟨0,0,0⟩):∃d,d≠(⟨0,0,0⟩:V3)/\dot n d=0:=by
 by_cases h:n.x=0/\n.y=0
 ·exact⟨⟨1,0,0⟩,by simp,by unfold dot;simp[h.1]⟩
 ·refine⟨⟨n.y,-n.x,0⟩,λh'=>h ?_,by unfold dot;grind⟩
  simp_all
theorem V3.ext'{a b:V3}(h1:a.x=b.x)(h2:a.y=b.y)(h3:a.z=b.z):a=b:=by cases a;cases b;simp_all
theorem le7{m n d:V3}(hm:m≠⟨0,0,0⟩)(h1:dot m d=0)(h2:dot n d≠0):d9 m n≠⟨0,0,0⟩:=λh=>by
 unfold d9 at h;simp only[V3.mk.injEq] at h;obtain⟨c1,c2,c3⟩:=h;unfold dot at h1 h2;have e1:m.x*(n.x*d.x+n.y*d.y+n.z*d.z)=0:=by grind
 have e2:m.y*(n.x*d.x+n.y*d.y+n.z*d.z)=0:=by grind
 have e3:m.z*(n.x*d.x+n.y*d.y+n.z*d.z)=0:=by grind
 have k:∀{a:Int},a*(n.x*d.x+n.y*d.y+n.z*d.z)=0->a=0:=λh=>(Qja.1 h).resolve_right h2
 exact hm (V3.ext' (k e1) (k e2) (k e3))
theorem ud0(a b:V3):dot a (d9 a b)=0:=by unfold dot d9;grind
theorem ud1(a b:V3):dot b (d9 a b)=0:=by unfold dot d9;grind
theorem le8{p q:Pln}{x:Pt}{d:V3}(h:rmZ p x=0)(h':dot p.n d=0):rmZ p (go x q d)=0:=by rw[Od0,h,h'];simp
theorem le9(q:Pln)(x:Pt)(d:V3):rmZ q (go x q d)=0:=by rw[Od0];grind
theorem wf1{q:Pln}{d:V3}(h:0<dot q.n d):q.n≠⟨0,0,0⟩:=λh'=>by rw[h'] at h;unfold dot at h;simp at h
theorem Qe7{a b c u v w:Int}(hu:0<u)(hv:0<v)(hw:0<w)(h1:a*v<=b*u)(h2:b*w<=c*v):a*w<=c*u:=by
 have h3:=Qjl h1 (Qjc hw);have h4:=Qjl h2 (Qjc hu);have e1:a*v*w=a*w*v:=by grind
 have e2:b*u*w=b*w*u:=by grind
 have e3:c*v*u=c*u*v:=by grind
 exact Ka0 hv (by omega)
theorem af2{r:List Pln}(hb:Bdd r)(h:Pln){x:Pt}(hx:Inr r x):∃v,Cn r v/\rmZ h v*x.pw<=rmZ h x*v.pw:=by
 obtain⟨d0,n0,p0,_⟩:=turn h (d:=⟨1,0,0⟩) (by simp)
 obtain⟨q1,m1,k1,i1⟩:=step hx d0 (hb d0 n0);have l1:=(le6 (h:=h) (x:=x) (hx.h q1 m1) p0).resolve_right (by have:=hx.w;omega)
 obtain⟨e1,ne1,he1⟩:=Kf4 (wf1 k1);obtain⟨d1,n1,p1,z1⟩:=turn h ne1;obtain⟨q2,m2,k2,i2⟩:=step i1 d1 (hb d1 n1);have l2:=(le6 (h:=h) (x:=go x q1 d0) (i1.h q2 m2) p1).resolve_right (by have:=i1.w;omega)
 have hc:=le7 (wf1 k1) (z1 _ he1) (n:=q2.n) (by omega)
 obtain⟨d2,n2,p2,z2⟩:=turn h hc;obtain⟨q3,m3,k3,i3⟩:=step i2 d2 (hb d2 n2);have l3:=(le6 (h:=h) (x:=go (go x q1 d0) q2 d1) (i2.h q3 m3) p2).resolve_right (by have:=i2.w;omega)
 have a1:rmZ q1 (go (go x q1 d0) q2 d1)=0:=le8 (le9 _ _ _) (z1 _ he1);refine⟨_,⟨i3,q3,q1,q2,m3,m1,m2,λh0=>?_,le9 _ _ _,le8 a1 (z2 _ (ud0 _ _)),le8 (le9 _ _ _) (z2 _ (ud1 _ _))⟩,?_⟩
 ·have:dot q3.n d2=0:=z2 _ h0
  omega
 ·exact Qe7 i3.w i2.w hx.w l3 (Qe7 i2.w i1.w hx.w l2 l1)
theorem ub7{r:List Pln}(hb:Bdd r){h:Pln}(hv:∀v,Cn r v->0<=rmZ h v){x:Pt}(hx:Inr r x):0<=rmZ h x:=by
 obtain⟨v,h1,h2⟩:=af2 hb h hx;have h3:=Qjb (hv v h1) (Qjc hx.w);exact Ka0 h1.w (by rw[Qjm];omega)
def mid(x y:Pt):Pt:=⟨x.px*y.pw+y.px*x.pw,x.py*y.pw+y.py*x.pw,x.pz*y.pw+y.pz*x.pw,2*(x.pw*y.pw)⟩
theorem me0(p:Pln)(x y:Pt):rmZ p (mid x y)=rmZ p x*y.pw+rmZ p y*x.pw:=by unfold rmZ mid;grind
theorem Inr.mid{r:List Pln}{x y:Pt}(hx:Inr r x)(hy:Inr r y):Inr r (mid x y):=⟨by unfold Ce.mid;exact Qjo (by decide) (Qjo hx.w hy.w),λp hp=>by
 rw[me0];exact Int.add_nonneg (Qjb (hx.h p hp) (Qjc hy.w)) (Qjb (hy.h p hp) (Qjc hx.w))⟩
def me1(r:List Pln):Prop:=∃x:Pt,0<x.pw/\∀p∈r,0<rmZ p x
theorem Od2{r:List Pln}:∀(l:List Pln),(∀p∈l,p∈r)->(∃x,Inr r x)->(∀p∈l,∃v,Inr r v/\0<rmZ p v)->∃x,Inr r x/\∀p∈l,0<rmZ p x
 |[],_,h,_=>by obtain⟨x,h⟩:=h;exact⟨x,h,λp hp=>by cases hp⟩
 |a::l,hl,h,hv=>by
  obtain⟨x,h1,h2⟩:=Od2 l (λp hp=>hl p (Qcn _ hp)) h (λp hp=>hv p (Qcn _ hp))
  obtain⟨y,h3,h4⟩:=hv a Qck;refine⟨mid x y,h1.mid h3,λp hp=>?_⟩
  rw[me0]
  rcases Qbp.1 hp with rfl|hp
  ·have:=Qjb (h1.h p (hl p Qck)) (Qjc h3.w)
   have:=Qjo h4 h1.w
   omega
  ·have:=Qjo (h2 p hp) h3.w
   have:=Qjb (h3.h p (hl p (Qcn _ hp))) (Qjc h1.w)
   omega
theorem me2{r:List Pln}(hb:Bdd r)(h0:r≠[]):me1 r↔∀p∈r,∃v,Cn r v/\0<rmZ p v:=by
 constructor
 ·intro ⟨x,hw,hx⟩ p hp;by_cases h:∃v,Cn r v/\0<rmZ p v
  ·exact h
  ·have hx':Inr r x:=⟨hw,λq hq=>Qjc (hx q hq)⟩
   have:=ub7 hb (h:=Y4 p) (λv hv=>by
    rw[td9]
    have:¬ 0<rmZ p v:=λh'=>h ⟨v,hv,h'⟩
    omega) hx'
   rw[td9] at this
   have:=hx p hp
   omega
 ·intro h;obtain⟨p,hp⟩:=List.exists_mem_of_ne_nil r h0;obtain⟨v,hv,_⟩:=h p hp;obtain⟨x,h1,h2⟩:=Od2 r (λ_ h=>h) ⟨v,hv.toInr⟩ λp hp=>by
   obtain⟨v,hv,h⟩:=h p hp;exact⟨v,hv.toInr,h⟩
  exact⟨x,h1.w,h2⟩
structure Eqv(x v:Pt):Prop where
 e1:x.px*v.pw=v.px*x.pw
 e2:x.py*v.pw=v.py*x.pw
 e3:x.pz*v.pw=v.pz*x.pw
theorem Eqv.rm{x v:Pt}(h:Eqv x v)(p:Pln):rmZ p x*v.pw=rmZ p v*x.pw:=by
 obtain⟨e1,e2,e3⟩:=h;unfold rmZ
 grind
theorem Eqv.inr{r:List Pln}{x v:Pt}(h:Eqv x v)(hw:0<x.pw)(hv:Inr r v):Inr r x:=⟨hw,λp hp=>by
 have:=h.rm p
 have h2:=Qjb (hv.h p hp) (Qjc hw);exact Ka0 hv.w (by rw[Qjm];omega)⟩
end Go.Ev.Ce
namespace Go.Ev.Ce
open Go Go.Ev Go.Ev.L Go.Proofs
theorem De1{p:Pln}{x:Pt}(hp:Bd p)(hx:Okx x):rm p x=rmZ p x:=by
 unfold rm rmZ;obtain⟨w1,w2,⟨a1,a2⟩,⟨a3,a4⟩,a5,a6⟩:=hx;have h0:=mb hp.b1 hp.b2 (show -600000000000<=x.pw by omega) w2
 have h1:=mb hp.x1 hp.x2 a1 a2;have h2:=mb hp.y1 hp.y2 a3 a4;have h3:=mb hp.z1 hp.z2 a5 a6;exact E7 (by omega) (by omega)
theorem Od3{r:PLq}(hb:Bds r){x:Pt}(hx:Okx x):inn r x=true↔Inr r x:=by
 unfold inn;rw[Qcf];constructor
 ·intro h;refine⟨hx.w1,λp hp=>?_⟩
  have:=h p hp
  rw[De1 (hb p hp) hx] at this;simpa using this
 ·intro h p hp;rw[De1 (hb p hp) hx];simpa using h.h p hp
theorem Qe8{p q s:Pln}(h:(mpt p q s).2=true):mw p q s≠0/\∃k:Int,k≠0/\k*(mpt p q s).1.px=(mv p q s).x/\k*(mpt p q s).1.py=(mv p q s).y/\k*(mpt p q s).1.pz=(mv p q s).z/\k*(mpt p q s).1.pw=mw p q s:=by
 unfold mpt at h ⊢;by_cases h0:mw p q s=0
 ·rw[if_pos h0] at h;cases h
 refine⟨h0,?_⟩;have hg:=ed7 (v:=mv p q s) h0;have dv:∀{x:Int},(gc (mv p q s) (mw p q s))∣x->gc (mv p q s) (mw p q s)*Int.tdiv x (gc (mv p q s) (mw p q s))=x:=λh=>Qjn h
 have d1:gc (mv p q s) (mw p q s)∣(mv p q s).x:=by
  rw[<- Qjp];exact Qji.2 (Qjj (Qjf _ _) (Qjf _ _))
 have d2:gc (mv p q s) (mw p q s)∣(mv p q s).y:=by
  rw[<- Qjp];exact Qji.2 (Qjj (Qjf _ _) (Qjh _ _))
 have d3:gc (mv p q s) (mw p q s)∣(mv p q s).z:=by
  rw[<- Qjp];exact Qji.2 (Qjj (Qjh _ _) (Qjf _ _))
 have d4:gc (mv p q s) (mw p q s)∣mw p q s:=by
  rw[<- Qjp];exact Qji.2 (Qjj (Qjh _ _) (Qjh _ _))
 rw[if_neg h0];by_cases h1:mw p q s<0
 ·rw[if_pos h1];have e:∀{x:Int},(gc (mv p q s) (mw p q s))∣x->-(gc (mv p q s) (mw p q s))*Int.tdiv (-x) (gc (mv p q s) (mw p q s))=x:=λ{x} h=>by
   rw[Qjae,dv ((Int.dvd_neg).2 h),Int.neg_neg]
  exact⟨-(gc (mv p q s) (mw p q s)),by omega,e d1,e d2,e d3,e d4⟩
 ·rw[if_neg h1];exact⟨gc (mv p q s) (mw p q s),by omega,dv d1,dv d2,dv d3,dv d4⟩
theorem me3{p q s:Pln}(h:(mpt p q s).2=true):rmZ p (mpt p q s).1=0/\rmZ q (mpt p q s).1=0/\rmZ s (mpt p q s).1=0:=by
 obtain⟨_,k,hk,e1,e2,e3,e4⟩:=Qe8 h;generalize (mpt p q s).1=x at *
 have f:∀a:Pln,a.b*mw p q s-(a.n.x*(mv p q s).x+a.n.y*(mv p q s).y+a.n.z*(mv p q s).z)=0->rmZ a x=0:=λa ha=>by
  rw[<- e1,<- e2,<- e3,<- e4] at ha
  have:k*rmZ a x=0:=by rw[<- ha];unfold rmZ;grind
  exact (Qja.1 this).resolve_left hk
 refine⟨f p ?_,f q ?_,f s ?_⟩<;>(simp only[mw,mv,dot,d9];grind)
theorem De2{p q s:Pln}(h:mw p q s≠0):(mpt p q s).2=true:=by
 unfold mpt;rw[if_neg h]
 split<;>rfl
theorem me4{p q s:Pln}{x:Pt}(h1:rmZ p x=0)(h2:rmZ q x=0)(h3:rmZ s x=0):mw p q s*x.px=(mv p q s).x*x.pw/\mw p q s*x.py=(mv p q s).y*x.pw/\mw p q s*x.pz=(mv p q s).z*x.pw:=by
 have i1:(mv p q s).x*x.pw-mw p q s*x.px=(d9 q.n s.n).x*rmZ p x+(d9 s.n p.n).x*rmZ q x+(d9 p.n q.n).x*rmZ s x:=by simp only[mw,mv,dot,d9,rmZ];grind
 have i2:(mv p q s).y*x.pw-mw p q s*x.py=(d9 q.n s.n).y*rmZ p x+(d9 s.n p.n).y*rmZ q x+(d9 p.n q.n).y*rmZ s x:=by simp only[mw,mv,dot,d9,rmZ];grind
 have i3:(mv p q s).z*x.pw-mw p q s*x.pz=(d9 q.n s.n).z*rmZ p x+(d9 s.n p.n).z*rmZ q x+(d9 p.n q.n).z*rmZ s x:=by simp only[mw,mv,dot,d9,rmZ];grind
 rw[h1,h2,h3] at i1 i2 i3;simp only[Qjab,Int.add_zero] at i1 i2 i3;omega
theorem af3{p q s:Pln}{x v:Pt}(h:mw p q s≠0)(h1:rmZ p x=0)(h2:rmZ q x=0)(h3:rmZ s x=0)(k1:rmZ p v=0)(k2:rmZ q v=0)(k3:rmZ s v=0):Eqv x v:=by
 obtain⟨a1,a2,a3⟩:=me4 h1 h2 h3;obtain⟨c1,c2,c3⟩:=me4 k1 k2 k3;have f:∀{a c m:Int},mw p q s*a=m*x.pw->mw p q s*c=m*v.pw->a*v.pw=c*x.pw:=λ{a c m} ha hc=>by
  have:mw p q s*(a*v.pw-c*x.pw)=0:=by grind
  have:=(Qja.1 this).resolve_left h
  omega
 exact⟨f a1 c1,f a2 c2,f a3 c3⟩
theorem Xd6{r:PLq}{p q:Pln}{out:List Pt}{s:Pln}{x:Pt}(h:x∈out):x∈Fa4 r p q out s:=by
 unfold Fa4;split
 ·exact Qbn _ h
 ·exact h
theorem Ic7{r:PLq}{p q:Pln}{x:Pt}:∀{l:PLq} {out:List Pt},x∈out->x∈Eb0 r p q l out
 |[],_,h=>h
 |s::l,out,h=>Ic7 (l:=l) (out:=Fa4 r p q out s) (Xd6 h)
theorem ac5{r:PLq}{p:Pln}{x:Pt}:∀{l:PLq} {out:List Pt},x∈out->x∈jb2 r p l out
 |[],_,h=>h
 |_::l,_,h=>ac5 (l:=l) (Ic7 h)
theorem ud2{r:PLq}{x:Pt}:∀{l:PLq} {out:List Pt},x∈out->x∈jc6 r l out
 |[],_,h=>h
 |_::l,_,h=>ud2 (l:=l) (ac5 h)
theorem Xd7{r:PLq}{p q:Pln}{out:List Pt}{s:Pln}(h1:(mpt p q s).2=true)(h2:inn r (mpt p q s).1=true):(mpt p q s).1∈Fa4 r p q out s:=by
 unfold Fa4;rw[h1,h2];cases h:Hc5 out (mpt p q s).1 with
 |true=>simpa using (je1 _ _).1 h
 |false=>simp
theorem Ic8{r:PLq}{p q s:Pln}(h1:(mpt p q s).2=true)(h2:inn r (mpt p q s).1=true):∀{l:PLq} {out:List Pt},s∈l->(mpt p q s).1∈Eb0 r p q l out
 |[],_,h=>by cases h
 |t::l,out,h=>by
  show _∈Eb0 r p q l (Fa4 r p q out t)
  rcases Qbp.1 h with rfl|h
  ·exact Ic7 (Xd7 h1 h2)
  ·exact Ic8 h1 h2 h
structure Hit(r:PLq)(Q:Pt->Prop)(p q s:Pln):Prop where
 h1:(mpt p q s).2=true
 h2:inn r (mpt p q s).1=true
 h3:Q (mpt p q s).1
theorem ud3{r:PLq}{Q:Pt->Prop}{p q s:Pln}(hq:Hit r Q p q s)(hs:Hit r Q p s q)(hne:q≠s):∀{l:PLq} {out:List Pt},q∈l->s∈l->∃x∈jb2 r p l out,Q x
 |[],_,h,_=>by cases h
 |t::l,out,hql,hsl=>by
  show ∃x∈jb2 r p l (Eb0 r p t l out),Q x
  rcases Qbp.1 hql with rfl|h1
  ·have h2:=(Qbp.1 hsl).resolve_left λh=>hne h.symm
   exact⟨_,ac5 (Ic8 hq.h1 hq.h2 h2),hq.h3⟩
  ·rcases Qbp.1 hsl with rfl|h2
   ·exact⟨_,ac5 (Ic8 hs.h1 hs.h2 h1),hs.h3⟩
   ·exact ud3 hq hs hne (l:=l) h1 h2
theorem ud4{r:PLq}{Q:Pt->Prop}{p q s:Pln}(H:∀a c d,(a=p\/a=q\/a=s)->(c=p\/c=q\/c=s)->(d=p\/d=q\/d=s)->a≠c->c≠d->a≠d->Hit r Q a c d)(h1:p≠q)(h2:q≠s)(h3:p≠s) :
  ∀{l:PLq} {out:List Pt},p∈l->q∈l->s∈l->∃x∈jc6 r l out,Q x
 |[],_,h,_,_=>by cases h
 |t::l,out,hp,hq,hs=>by
  have fin:∀{a c d:Pln} {out:List Pt},(a=p\/a=q\/a=s)->(c=p\/c=q\/c=s)->(d=p\/d=q\/d=s)->a≠c->c≠d->a≠d->c∈l->d∈l->∃x∈jc6 r l (jb2 r a l out),Q x:=λha hc hd n1 n2 n3 m1 m2=>by
   obtain⟨x,hx,hQ⟩:=ud3 (H _ _ _ ha hc hd n1 n2 n3) (H _ _ _ ha hd hc n3 n2.symm n1) n2 (out:=_) m1 m2;exact⟨x,ud2 hx,hQ⟩
  show ∃x∈jc6 r l (jb2 r t l out),Q x
  rcases Qbp.1 hp with rfl|hp'
  ·exact fin (.inl rfl) (.inr (.inl rfl)) (.inr (.inr rfl)) h1 h2 h3 ((Qbp.1 hq).resolve_left (Ne.symm h1)) ((Qbp.1 hs).resolve_left (Ne.symm h3))
  ·rcases Qbp.1 hq with rfl|hq'
   ·exact fin (.inr (.inl rfl)) (.inl rfl) (.inr (.inr rfl)) (Ne.symm h1) h3 h2 hp' ((Qbp.1 hs).resolve_left (Ne.symm h2))
   ·rcases Qbp.1 hs with rfl|hs'
    ·exact fin (.inr (.inr rfl)) (.inl rfl) (.inr (.inl rfl)) (Ne.symm h3) h1 (Ne.symm h2) hp' hq'
    ·exact ud4 H h1 h2 h3 hp' hq' hs'
theorem wf2{p q s:Pln}(h:mw p q s≠0):p≠q/\q≠s/\p≠s:=by
 refine⟨λe=>h ?_,λe=>h ?_,λe=>h ?_⟩<;>(subst e;simp only[mw,dot,d9];grind)
theorem af4{r:PLq}(hb:Bds r):∀x∈cor r,Cn r x:=Md9 λp hp q hq s hs h hi=>by
 obtain⟨w1,w2,w3,w4,w5⟩:=Ed7 (hb p hp) (hb q hq) (hb s hs) h;obtain⟨e1,e2,e3⟩:=me3 h;exact⟨(Od3 hb ⟨w1,w5,w2,w3,w4⟩).1 hi,p,q,s,hp,hq,hs,(Qe8 h).1,e1,e2,e3⟩
theorem af5{r:PLq}(hb:Bds r){v:Pt}(hv:Cn r v):∃x∈cor r,Eqv x v:=by
 obtain⟨p,q,s,hp,hq,hs,hw,e1,e2,e3⟩:=hv.c;obtain⟨n1,n2,n3⟩:=wf2 hw;refine ud4 (λa c d ha hc hd m1 m2 m3=>?_) n1 n2 n3 hp hq hs
 have hm:∀{a},(a=p\/a=q\/a=s)->a∈r/\rmZ a v=0:=λh=>by
  rcases h with rfl|rfl|rfl
  ·exact⟨hp,e1⟩
  ·exact⟨hq,e2⟩
  ·exact⟨hs,e3⟩
 have hw':mw a c d≠0:=by
  have k:mw a c d=mw p q s\/mw a c d=-mw p q s:=by
   rcases ha with rfl|rfl|rfl<;>rcases hc with rfl|rfl|rfl<;>rcases hd with rfl|rfl|rfl<;>first|exact absurd rfl m1|exact absurd rfl m2|exact absurd rfl m3|exact .inl rfl|(left;simp only[mw,dot,d9];grind;done)|(right;simp only[mw,dot,d9];grind;done)
  rcases k with k|k<;>omega
 have h:=De2 hw';obtain⟨w1,w2,w3,w4,w5⟩:=Ed7 (hb a (hm ha).1) (hb c (hm hc).1) (hb d (hm hd).1) h;obtain⟨f1,f2,f3⟩:=me3 h;have he:=af3 hw' f1 f2 f3 (hm ha).2 (hm hc).2 (hm hd).2;exact⟨h,(Od3 hb ⟨w1,w5,w2,w3,w4⟩).2 (he.inr w1 hv.toInr),he⟩
theorem me5(c:PLq):Bdd (c++ws):=λd hd=>by
 have k:∀{n:V3} {m:Int},(⟨n,m⟩:Pln)∈ws->0<dot n d->∃p∈c++ws,0<dot p.n d:=λh h'=>⟨_,Qcg _ h,h'⟩
 by_cases h1:0<d.x
 ·exact k (n:=⟨1,0,0⟩) (m:=24) (by simp[ws]) (by unfold dot;simp;omega)
 by_cases h2:d.x<0
 ·exact k (n:=⟨-1,0,0⟩) (m:=24) (by simp[ws]) (by unfold dot;simp;omega)
 by_cases h3:0<d.y
 ·exact k (n:=⟨0,1,0⟩) (m:=24) (by simp[ws]) (by unfold dot;simp;omega)
 by_cases h4:d.y<0
 ·exact k (n:=⟨0,-1,0⟩) (m:=24) (by simp[ws]) (by unfold dot;simp;omega)
 by_cases h5:0<d.z
 ·exact k (n:=⟨0,0,1⟩) (m:=24) (by simp[ws]) (by unfold dot;simp;omega)
 by_cases h6:d.z<0
 ·exact k (n:=⟨0,0,-1⟩) (m:=24) (by simp[ws]) (by unfold dot;simp;omega)
 exact absurd (V3.ext' (by show d.x=0;omega) (by show d.y=0;omega) (by show d.z=0;omega)) hd
theorem Od4{r:PLq}(hb:Bds r){p:Pln}(hp:Bd p):pos (cor r) p=true↔∃v,Cn r v/\0<rmZ p v:=by
 unfold pos;rw[Qjd];constructor
 ·rintro⟨x,hx,h⟩;rw[De1 hp (fd1 hb x hx)] at h;exact⟨x,af4 hb x hx,by simpa using h⟩
 ·rintro⟨v,hv,h⟩;obtain⟨x,hx,he⟩:=af5 hb hv;refine⟨x,hx,?_⟩;rw[De1 hp (fd1 hb x hx)];have h1:=he.rm p;have h2:=Qjo h (fd1 hb x hx).w1
  have:0<rmZ p x:=Int.lt_of_mul_lt_mul_right (by rw[Qjm];omega:0*v.pw<rmZ p x*v.pw) (Qjc hv.w)
  simpa using this
theorem Vc7{r:PLq}(hb:Bds r)(hd:Bdd r)(h0:r≠[]):Ed8 r=true↔me1 r:=by
 rw[me2 hd h0];unfold Ed8;rw[Qcf];exact⟨λh p hp=>(Od4 hb (hb p hp)).1 (h p hp),λh p hp=>(Od4 hb (hb p hp)).2 (h p hp)⟩
end Go.Ev.Ce
namespace Go.Ev.Ce
def dv(z v:Pt):V3:=⟨v.px*z.pw-z.px*v.pw,v.py*z.pw-z.py*v.pw,v.pz*z.pw-z.pz*v.pw⟩
end Go.Ev.Ce
namespace Go.Ev.Ce
open Go Go.Ev Go.Ev.L Go.Proofs
theorem De3(x:PLq)(y:Pln):ab2 x y≠[]:=by
 intro h
 have:=(nb8 y y x).2 (.inl rfl)
 rw[h] at this;cases this
theorem nb9(y:Pln):∀x:PLq,(ab2 x y).length<=x.length+1
 |[]=>Qac _
 |a::l=>by
  have:=nb9 y l
  unfold ab2;split
  ·simp only[List.length_cons];omega
  ·split<;>simp only[List.length_cons]<;>omega
def phP(out:PLq):Nat:=match out with
 |[]=>0
 |_::_=>1
def Y9(p:Pln)(v:V3):Int:=if okp p&&inV v then (if dot p.n v-p.b<0 then -1 else if dot p.n v-p.b>0 then 1 else 0) else 0
theorem fd7{p:Pln}{v:V3}(hp:Bd p)(hv:inV v=true):Sm 331776 (dot p.n v):=by
 obtain⟨⟨a1,a2⟩,⟨a3,a4⟩,a5,a6⟩:=(eb3 v).1 hv;have r1:=mb hp.x1 hp.x2 a1 a2;have r2:=mb hp.y1 hp.y2 a3 a4;have r3:=mb hp.z1 hp.z2 a5 a6;unfold Sm dot;omega
theorem De4(p:Pln)(v:V3):xa7 p v=some (i (Y9 p v),[]):=by
 unfold xa7 Y9;simp only[sd8,Hc9,Nd2,td5];cases hp:okp p with
 |false=>rfl
 |true =>
  cases hv:inV v with
  |false=>rfl
  |true =>
   have hb:=Ya9 hp;have hd:=fd7 hb hv;have e:ja7 p.n v=dot p.n v:=by
    unfold ja7;simp only[ib2,Cb4];exact Aa1 (hd.mono (by omega))
   have e2:W (dot p.n v-p.b)=dot p.n v-p.b:=E7 (by have:=hd.1;have:=hb.b2;omega) (by have:=hd.2;have:=hb.b1;omega)
   rw[e,e2];by_cases h1:dot p.n v-p.b<0
   ·simp only[Qjg,if_true,h1,decide_true];rfl
   ·by_cases h2:dot p.n v-p.b>0
    ·simp only[Qjg,if_true,h1,h2,decide_true,decide_false,if_false];rfl
    ·simp only[Qjg,if_true,h1,h2,decide_false,if_false];rfl
theorem me6(p:Pln)(v:V3):Ha7 p v=Y9 p v:=by unfold Ha7;rw[De4];rfl
theorem ud5{p:Pln}{v:V3}(hp:okp p=true)(hv:inV v=true):Y9 p v>0↔dot p.n v>p.b:=by
 unfold Y9;rw[hp,hv];simp only[Qjg,if_true];split
 ·omega
 ·split<;>omega
theorem jc9{p:Pln}{v:V3}(hp:okp p=true)(hv:inV v=true):Y9 p v=0↔dot p.n v=p.b:=by
 unfold Y9;rw[hp,hv];simp only[Qjg,if_true];split
 ·omega
 ·split<;>omega
theorem af6(v:V3):g3 v∣v.x/\g3 v∣v.y/\g3 v∣v.z:=by
 unfold g3;refine⟨?_,?_,?_⟩<;>rw[<- Qjp]<;>apply Qji.2
 ·exact Qjj (Qjf _ _) (Qjf _ _)
 ·exact Qjj (Qjf _ _) (Qjh _ _)
 ·exact Qjh _ _
theorem af7(v:V3)(h:g3 v≠0):g3 ⟨Int.tdiv v.x (g3 v),Int.tdiv v.y (g3 v),Int.tdiv v.z (g3 v)⟩=1:=by
 generalize hg:g3 v=g at *
 have h0:0<=g:=hg ▸ Hb6 v;obtain⟨n,rfl⟩:∃n:Nat,g=n:=⟨g.toNat,by omega⟩
 have hn:0<n:=by omega
 have hgn:Nat.gcd (Nat.gcd v.x.natAbs v.y.natAbs) v.z.natAbs=n:=by unfold g3 at hg;omega
 have d1:n∣Nat.gcd v.x.natAbs v.y.natAbs:=hgn ▸ Qjf _ _;have d3:n∣v.z.natAbs:=hgn ▸ Qjh _ _;have d4:n∣v.x.natAbs:=Qjj d1 (Qjf _ _);have d5:n∣v.y.natAbs:=Qjj d1 (Qjh _ _);unfold g3;simp only[Int.natAbs_tdiv,Int.natAbs_natCast];show ((Nat.gcd (Nat.gcd (v.x.natAbs / n) (v.y.natAbs / n)) (v.z.natAbs / n):Nat):Int)=1;rw[Nat.gcd_div d4 d5,Nat.gcd_div d1 d3,hgn,Nat.div_self hn];rfl
structure Thr(a b c:V3)(p:Pln):Prop where
 ok:okp p=true
 k:∃g:Int,0<g/\g*p.n.x=(d9 (sub b a) (sub c a)).x/\g*p.n.y=(d9 (sub b a) (sub c a)).y/\g*p.n.z=(d9 (sub b a) (sub c a)).z
 o:p.b=dot p.n a
theorem ba9{a b c:V3}(h:(u9 a b c).2=true):(inV a=true/\inV b=true/\inV c=true)/\Thr a b c (u9 a b c).1:=by
 unfold u9 at h ⊢;cases ha:inV a with
 |false=>rw[ha] at h;cases h
 |true =>
  cases hb:inV b with
  |false=>rw[ha,hb] at h;cases h
  |true =>
   cases hc:inV c with
   |false=>rw[ha,hb,hc] at h;cases h
   |true =>
    rw[ha,hb,hc] at h;simp only[Qjg,if_true] at h ⊢;obtain⟨_,k1,k2,k3⟩:=jb3 ha hb hc;generalize hn:d9 (sub b a) (sub c a)=n at *
    by_cases h0:g3 n=0
    ·rw[if_pos h0] at h;cases h
    ·rw[if_neg h0];have hp:=Hb6 n;obtain⟨d1,d2,d3⟩:=af6 n;have q1:=I4 (g:=g3 n) k1 (by omega)
     have q2:=I4 (g:=g3 n) k2 (by omega)
     have q3:=I4 (g:=g3 n) k3 (by omega)
     refine⟨⟨trivial,trivial,trivial⟩,⟨?_,⟨g3 n,by omega,by rw[hn];exact Qjn d1,by rw[hn];exact Qjn d2,by rw[hn];exact Qjn d3⟩,rfl⟩⟩
     obtain⟨⟨a1,a2⟩,⟨a3,a4⟩,a5,a6⟩:=(eb3 a).1 ha;have r1:=mb q1.1 q1.2 a1 a2;have r2:=mb q2.1 q2.2 a3 a4;have r3:=mb q3.1 q3.2 a5 a6;unfold okp;rw[af7 n h0];simp only[List.all_cons,List.all_nil,Qia,Qbd,wa7,beq_self_eq_true,true_and,and_true];refine⟨⟨q1,q2,q3⟩,?_⟩;unfold Sm dot
     simp only
     omega
theorem Od5(a b c:V3):Bd (u9 a b c).1:=by
 cases h:(u9 a b c).2 with
 |true=>exact Ya9 (ba9 h).2.ok
 |false =>
  have:(u9 a b c).1=⟨⟨0,0,0⟩,0⟩:=by
   unfold u9 at h ⊢;split
   ·rename_i hc;rw[if_pos hc] at h;split
    ·rfl
    ·rename_i h0;rw[if_neg h0] at h;cases h
   ·rfl
  rw[this]
  constructor<;>simp
theorem me7{p:Pln}(h:Bd p):Ha6 p=Y4 p:=by
 unfold Ha6 qa6 Y4
 simp only
 have:=h.x1;have:=h.x2;have:=h.y1;have:=h.y2;have:=h.z1;have:=h.z2;have:=h.b1;have:=h.b2
 rw[E7 (by omega) (by omega),E7 (by omega) (by omega),E7 (by omega) (by omega),E7 (by omega) (by omega)]
 simp only[Int.zero_sub]
theorem Eb1{p:Pln}(h:okp p=true):okp (Y4 p)=true:=by
 unfold okp Y4 g3 at *
 simp only[List.all_cons,List.all_nil,Qia,Qbd,wa7,Int.natAbs_neg] at h ⊢;obtain⟨⟨h1,h2,h3⟩,h4,h5⟩:=h;exact⟨⟨h1.neg,h2.neg,h3.neg⟩,h4,h5.neg⟩
def me8(l:List V3)(p:Pln):Bool:=l.any λv=>Y9 p v != 0
def nf(l:List V3)(a c k:Nat):Bool:=(u9 (gL tV l a) (gL tV l c) (gL tV l k)).2&&me8 l (u9 (gL tV l a) (gL tV l c) (gL tV l k)).1
def nf2(l:List V3)(a c:Nat):Bool:=(List.range c).any (nf l a c)
def nf1(l:List V3)(a:Nat):Bool:=(List.range a).any (nf2 l a)
def nf0(l:List V3):Bool:=(List.range l.length).any (nf1 l)
theorem Ic9{σ:Type}{step:σ->Stp σ}{mk:Nat->σ}(n:Nat)(c:Nat->Bool)(u fin:Nat)(hn:n<=1000000000)(h:∀j,j<n->step (mk j)=sl (c j) (.exit u) (.next (mk (j+1))))(hf:step (mk n)=.exit fin) :
  ∃j,lp step (mk 0)=(if (List.range n).any c then u else fin,mk j):=by
 have key:=L7 (step:=step) (mk:=λj (_:Unit)=>mk j) n (λj _=>j<=n/\∀i,i<j->c i=false) (λt s=>t=(if (List.range n).any c then u else fin)/\∃j,s=mk j) hn
  (λj _ hj hi=>by
   rw[h j hj];refine Nx.sl (λhc=>.ex ⟨?_,j,rfl⟩) (λhc=>.nx ⟨(),rfl,by omega,λi hi'=>?_⟩)
   ·rw[if_pos (Qjd.2 ⟨j,Qcj.2 hj,hc⟩)]
   ·by_cases e:i=j
    ·rw[e];exact hc
    ·exact hi.2 i (by omega))
  (λj _ hj hi=>by
   have e:j=n:=by omega
   subst e;refine⟨fin,hf,?_,j,rfl⟩;rw[if_neg λhh=>?_]
   obtain⟨i,hi1,hi2⟩:=Qjd.1 hh;rw[hi.2 i (Qcj.1 hi1)] at hi2;cases hi2) 0 () ⟨by omega,by omega⟩
 obtain⟨t,s,h1,rfl,j,rfl⟩:=key;exact⟨j,h1⟩
theorem me9(l:List V3)(x1 x2 x3:Int)(okb:Bool)(p:Pln)(hl:l.length<=1000000000):∃t s,lp (u7 ⟨l,x1,x2,x3,okb,p.n.x,p.n.y,p.n.z,p.b⟩) ⟨0⟩=(t,s)/\(((okb&&me8 l p)=true/\t=1)\/((okb&&me8 l p)=false/\(t=2\/t=3))):=by
 cases okb with
 |false =>
  cases l with
  |nil =>
   refine⟨3,⟨0⟩,?_,.inr ⟨rfl,.inr rfl⟩⟩;exact Nd9 (step:=u7 ⟨[],x1,x2,x3,false,p.n.x,p.n.y,p.n.z,p.b⟩) rfl
  |cons v l =>
   refine⟨2,⟨0⟩,?_,.inr ⟨rfl,.inl rfl⟩⟩;refine Nd9 (step:=u7 ⟨v::l,x1,x2,x3,false,p.n.x,p.n.y,p.n.z,p.b⟩) ?_;simp only[u7,X3];rw[btD (by simp only[List.length_cons];omega)]
   rfl
 |true =>
  have h:=Pa2 (step:=u7 ⟨l,x1,x2,x3,true,p.n.x,p.n.y,p.n.z,p.b⟩) (mk:=λj=>(⟨(j:Int)⟩:U2)) (c:=λv=>Y9 p v != 0) (u:=1) (fin:=3) tV l hl
   (λj hj=>by
    simp only[u7,X3,fd2,me6,Int.toNat_natCast,n7 hj (show l.length<=4611686018427387904 by omega)]
    rw[btD (k8 hj),bt (g7 hj)]
    rfl)
   (by simp only[u7,X3];rw[bfD (n9 (Qed _))]) 0 (Qee _)
  rw[Qic] at h;have h:(lp (u7 ⟨l,x1,x2,x3,true,p.n.x,p.n.y,p.n.z,p.b⟩) ⟨0⟩).1=_:=h;cases hlp:lp (u7 ⟨l,x1,x2,x3,true,p.n.x,p.n.y,p.n.z,p.b⟩) ⟨0⟩ with
  |mk t s =>
  rw[hlp] at h;refine⟨t,s,rfl,?_⟩
  simp only at h
  rw[h];unfold me8;cases hh:l.any λv=>Y9 p v != 0 with
  |true=>exact .inl ⟨rfl,rfl⟩
  |false=>exact .inr ⟨rfl,.inr rfl⟩
theorem ne0(l:List V3)(hl:l.length<=1000000000)(a c:Nat)(ha:a<l.length)(hc:c<a):∃j,lp (K2 ⟨(a:Int),(c:Int)⟩) ⟨l,0⟩=(if nf2 l a c then 1 else 2,⟨l,((j:Nat):Int)⟩) :=
 Ic9 (step:=K2 ⟨(a:Int),(c:Int)⟩) (mk:=λj=>(⟨l,(j:Int)⟩:U3)) c (nf l a c) 1 2 (by omega)
  (λj hj=>by
   simp only[K2,da9,Ua0,ra4,Int.toNat_natCast,j9,i8,n7 hj (show c<=4611686018427387904 by omega)]
   rw[btD (k8 hj),bt (g7 ha),bt (g7 (show c<l.length by omega)),bt (g7 (show j<l.length by omega)),l0]
   obtain⟨t,s,h1,h2⟩:=me9 l (a:Int) (c:Int) (j:Int) (u9 (gL tV l a) (gL tV l c) (gL tV l j)).2 (u9 (gL tV l a) (gL tV l c) (gL tV l j)).1 hl;rw[h1];unfold nf
   rcases h2 with⟨e,rfl⟩|⟨e,rfl|rfl⟩<;>rw[e]<;>rfl)
  (by simp only[K2,da9];rw[bfD (n9 (Qed _))])
theorem ne2(l:List V3)(hl:l.length<=1000000000)(a:Nat)(ha:a<l.length):∃j,lp (K3 ⟨(a:Int)⟩) ⟨l,0⟩=(if nf1 l a then 1 else 2,⟨l,((j:Nat):Int)⟩) :=
 Ic9 (step:=K3 ⟨(a:Int)⟩) (mk:=λj=>(⟨l,(j:Int)⟩:U4)) a (nf2 l a) 1 2 (by omega)
  (λj hj=>by
   obtain⟨j',h1⟩:=ne0 l hl a j ha hj;simp only[K3,ea0,j9,i8,n7 hj (show a<=4611686018427387904 by omega)]
   rw[btD (k8 hj),h1];cases nf2 l a j<;>rfl)
  (by simp only[K3,ea0];rw[bfD (n9 (Qed _))])
theorem De5(l:List V3)(hl:l.length<=1000000000):xa8 l=some (b (!nf0 l),[]):=by
 obtain⟨j,h⟩:=Ic9 (step:=K4 ⟨⟩) (mk:=λj=>(⟨l,(j:Int)⟩:U5)) l.length (nf1 l) 1 2 hl
  (λj hj=>by
   obtain⟨j',h1⟩:=ne2 l hl j hj;simp only[K4,ea1,j9,i8,n7 hj (show l.length<=4611686018427387904 by omega)]
   rw[btD (k8 hj),h1];cases nf1 l j<;>rfl)
  (by simp only[K4,ea1];rw[bfD (n9 (Qed _))])
 have h:lp (K4 ⟨⟩) ⟨l,0⟩=(if nf0 l then 1 else 2,⟨l,((j:Nat):Int)⟩):=h
 unfold xa8;simp only[j9,i8];rw[h];cases nf0 l<;>rfl
theorem af8(l:List V3)(hl:l.length<=1000000000):xa9 l=!nf0 l:=by unfold xa9;rw[De5 l hl];rfl
def Rb8(l:List V3):Int:=if (l.length:Int)>48 then 2 else if l.all inV then (if nf0 l then 0 else 11) else 3
theorem Fd3(l:List V3)(hl:l.length<=1000000000):na6 l=some (i (Rb8 l),[]):=by
 have h:=Pa2 (step:=P0 ⟨l⟩) (mk:=λj=>(⟨(j:Int)⟩:N8)) (c:=λv=>!inV v) (u:=1) (fin:=2) tV l hl
  (λj hj=>by
   simp only[P0,aa2,Int.toNat_natCast,Nd2,td5,n7 hj (show l.length<=4611686018427387904 by omega)]
   rw[btD (k8 hj),bt (g7 hj),l0])
  (by simp only[P0,aa2];rw[bfD (n9 (Qed _))]) 0 (Qee _)
 rw[Qic] at h;have e:(l.any λv=>!inV v)=!l.all inV:=by rw[Qih]
 unfold na6 Rb8;simp only[j9,i8,O7,Fd0 l hl,af8 l hl];rw[show (⟨0⟩:N8)=⟨((0:Nat):Int)⟩ from rfl,h,e]
 by_cases h48:(l.length:Int)>48
 ·rw[if_pos h48,btD h48]
 ·rw[if_neg h48,bfD h48];cases l.all inV with
  |false=>rfl
  |true=>cases nf0 l<;>rfl
theorem Xd8(l:List V3)(hl:l.length<=1000000000):La2 l=Rb8 l:=by unfold La2;rw[Fd3 l hl];rfl
def hold(p:Pln)(l:List V3):Bool:=!l.any λv=>decide (Y9 p v>0)
theorem ne3(p:Pln)(l:List V3)(hl:l.length<=1000000000):na7 p l=some (b (hold p l),[]):=by
 have h:=Pa2 (step:=P1 ⟨l,p.n.x,p.n.y,p.n.z,p.b⟩) (mk:=λj=>(⟨(j:Int)⟩:ga7)) (c:=λv=>decide (Y9 p v>0)) (u:=1) (fin:=2) tV l hl
  (λj hj=>by
   simp only[P1,aa3,Int.toNat_natCast,me6,fd2,n7 hj (show l.length<=4611686018427387904 by omega)]
   rw[btD (k8 hj),bt (g7 hj),l0])
  (by simp only[P1,aa3];rw[bfD (n9 (Qed _))]) 0 (Qee _)
 rw[Qic] at h;unfold na7 hold;simp only[j9,i8];rw[show (⟨0⟩:ga7)=⟨((0:Nat):Int)⟩ from rfl,h]
 cases l.any λv=>decide (Y9 p v>0)<;>rfl
theorem De6(p:Pln)(l:List V3)(hl:l.length<=1000000000):ga2 p l=hold p l:=by unfold ga2;rw[ne3 p l hl];rfl
theorem Fd4 (x:PLq) (y:Pln) (hx:x.length≤1000000):Rd (one (r1L tP)) (Ha9 x y) (fun r=>r=ins x y):=by
  have h:=Ja5 (step:=N9 ⟨x,y.n.x,y.n.y,y.n.z,y.b⟩) (mk:=fun j=>(⟨(j:Int)⟩:ga7)) (c:=fun p=>!decide (ba6 p y < 0)) (u:=1) (fin:=2) tP x (by omega)
    (fun j hj=>by
      simp only[N9,ja9,Int.toNat_natCast,ke8,af1,n7 hj (show x.length<=4611686018427387904 by omega)]
      rw[btD (k8 hj),bt (g7 hj),l0];show sl (decide (ba6 (gL tP x j) y<0)) _ _=_;cases decide (ba6 (gL tP x j) y<0)<;>rfl)
    (by simp only[N9,ja9];rw[bfD (n9 (Qed _))]) 0 (Qee _)
  rw[Qic] at h
  have key:∃ t,lp (N9 ⟨x,y.n.x,y.n.y,y.n.z,y.b⟩) ⟨0⟩=(t,⟨((atP x y:Nat):Int)⟩)∧(t=1∨t=2):=by
    rw[show (⟨0⟩:ga7)=⟨((0:Nat):Int)⟩ from rfl,h]
    split
    · exact⟨1,by rw[Qbh];rfl,.inl rfl⟩
    · rename_i hn
      refine⟨2,?_,.inr rfl⟩
      have:atP x y=x.length:=by
        unfold atP;rw[List.findIdx_eq_length];intro p hp;cases hb:(!decide (ba6 p y<0)) with
        |false=>rfl
        |true=>exact absurd (Qjd.2 ⟨p,hp,hb⟩) hn
      rw[this]
  obtain⟨t,h1,h2⟩:=key;have h3:atP x y<=x.length:=List.findIdx_le_length;have hdef:ins x y=if (atP x y<x.length/\eqP (gL tP x (atP x y)) y=true) then x else Jb6 x y (atP x y):=rfl
  generalize atP x y=n at *
  have hlo:inB (n:Int) (x.length+1)=true:=g7 (by omega)
  have hd:(bL tP (x.take n)).length=n:=by rw[<- l6,S7,Qif];omega
  have hlen:(Jb6 x y n).length=x.length+1:=by unfold Jb6;simp only[Qea,List.length_cons,Qif,Qbr];omega
  have lt:len (bL tP (x.take n))=n:=by rw[l6];exact hd
  have ld:len (bL tP (x.drop n))=x.length-n:=by rw[S7,Qbr]
  have b1:(Nat.beq 1 1&&Nat.ble ((1+(x.length-n))*32) room)=true:=by rw[da0 (by omega)];rfl
  have b2:(Nat.beq 0 0&&Nat.ble ((0+n)*32) room)=true:=by rw[da0 (by omega)];rfl
  have e0:app [] (bL tP (x.take n))=bL tP (x.take n):=rfl;have b3:(Nat.beq (0+n) n&&Nat.ble (((0+n)+1)*32) room)=true:=by rw[da0 (by omega),Qbh,Qib];rfl
  have l3:len (bL tP (x.take n++[y]))=n+1:=by rw[S7,Qea,Qif];simp only[List.length_singleton];omega
  have b4:(Nat.beq ((0+n)+1) (n+1)&&Nat.ble ((((0+n)+1)+(x.length-n))*32) room)=true:=by rw[da0 (by omega),Qbh,Qib];rfl
  have z0:∀{k:Nat},Nat.beq k 0=true->k=0:=λ{k} h=>Qae h
  have fin:ins x y=Jb6 x y n→∀ m r,m=x.length+1→r=bL tP (Jb6 x y n)→Rd (one (r1L tP)) (some (.sl 0 0 m 0,[⟨66,4,r,true,false,0⟩])) (fun r=>r=ins x y) :=
    λhq m r hm hr=>fd3 (by rw[hlen];exact hm) hr hq.symm
  have tail:ins x y=Jb6 x y n→Rd (one (r1L tP)) (some ((.sl 0 0 (((0+n)+1)+(x.length - n)) 0),[⟨66,4,(app (bL tP (x.take n++[y])) (bL tP (x.drop n))),true,false,0⟩])) (fun r=>r=ins x y):=fun hq=>by
    refine fin hq _ _ (by omega) ?_
    rw[xa2];unfold Jb6;rw[Qjz];rfl
  unfold Ha9;simp only[j9,i8];rw[h1];simp only[Int.toNat_natCast,Ic4 x n h3,Ic5,lt,ld,b1,b2,e0,b3,Zb7,l3,b4,hlo,l0]
  have main:Rd (one (r1L tP)) (sl (decide ((n:Int) < (x.length:Int))) (sl (inB (n:Int) x.length) (sl (((gL tP x n).n.x==y.n.x)&&(((gL tP x n).n.y==y.n.y)&&(((gL tP x n).n.z==y.n.z)&&(((gL tP x n).b==y.b)&&true)))) (some (eL tP x,[])) (some ((.sl 0 0 (((0+n)+1)+(x.length - n)) 0),[⟨66,4,(app (bL tP (x.take n++[y])) (bL tP (x.drop n))),true,false,0⟩]))) none) (some ((.sl 0 0 (((0+n)+1)+(x.length - n)) 0),[⟨66,4,(app (bL tP (x.take n++[y])) (bL tP (x.drop n))),true,false,0⟩]))) (fun r=>r=ins x y):=by
    by_cases hn:n<x.length
    · rw[btD (k8 hn),bt (g7 hn)]
      exact Rd.sl (fun q=>⟨_,x,rfl,je8 tP x,by rw[hdef,if_pos ⟨hn,q⟩]⟩) fun q=>tail (by
        rw[hdef,if_neg λh=>?_]
        have h:=h.2;rw[show eqP (gL tP x n) y=false from q] at h
        cases h)
    · rw[bfD (n9 hn)]
      exact tail (by rw[hdef,if_neg λh=>hn h.1])
  rcases h2 with rfl|rfl
  · exact main
  · exact main
theorem ne4(x:PLq)(y:Pln)(hx:x.length<=1000000):A4 x y=ab2 x y:=(Fd4 x y hx).p.trans (le5 y x)
def eb4(l:List V3)(a c:Nat)(out:PLq)(k:Nat):PLq :=
  if (u9 (gL tV l a) (gL tV l c) (gL tV l k)).2 then
    (if hold (Y4 (u9 (gL tV l a) (gL tV l c) (gL tV l k)).1) l then ab2 (if hold (u9 (gL tV l a) (gL tV l c) (gL tV l k)).1 l then ab2 out (u9 (gL tV l a) (gL tV l c) (gL tV l k)).1 else out) (Y4 (u9 (gL tV l a) (gL tV l c) (gL tV l k)).1)
     else (if hold (u9 (gL tV l a) (gL tV l c) (gL tV l k)).1 l then ab2 out (u9 (gL tV l a) (gL tV l c) (gL tV l k)).1 else out))
  else out
def F2(l:List V3)(a:Nat)(out:PLq)(c:Nat):PLq:=(List.range c).foldl (eb4 l a c) out
def F1(l:List V3)(out:PLq)(a:Nat):PLq:=(List.range a).foldl (F2 l a) out
def F0(l:List V3):PLq:=(List.range l.length).foldl (F1 l) []
theorem Hb8(x:PLq)(y:Pln):phP (ab2 x y)=1:=by
  cases h:ab2 x y with
  |nil=>exact absurd h (De3 _ _)
  |cons _ _=>rfl
theorem kc0(l:List V3)(a c:Nat)(out:PLq)(k:Nat):(eb4 l a c out k).length<=out.length+2:=by
  unfold eb4;split
  · split
    · refine Qad (nb9 _ _) ?_
      split
      · have:=nb9 (u9 (gL tV l a) (gL tV l c) (gL tV l k)).1 out;omega
      · omega
    · split
      · have:=nb9 (u9 (gL tV l a) (gL tV l c) (gL tV l k)).1 out;omega
      · omega
  · omega
theorem n4{τ:Type}(f:τ->Nat->τ)(a:τ)(n:Nat):(List.range (n+1)).foldl f a=f ((List.range n).foldl f a) n:=by
  rw[List.range_succ,List.foldl_append];rfl
theorem ob0{f:PLq->Nat->PLq}{m:Nat}(h:∀o k,(f o k).length<=o.length+m)(o:PLq):∀n,((List.range n).foldl f o).length<=o.length+m*n
  |0=>Qac _
  | n+1=>by
    rw[n4];have h1:=h ((List.range n).foldl f o) n;have h2:=ob0 h o n;rw[Nat.mul_succ];omega
theorem wf3(l:List V3)(hl:l.length<=48)(a c:Nat)(ha:a<l.length)(hc:c<a)(out:PLq)(ho:out.length<=900000) :
    ∃j,lp (L0 ⟨l,(a:Int),(c:Int)⟩) ⟨phP out,0,out⟩=(phP (F2 l a out c)+1,⟨phP (F2 l a out c),((j:Nat):Int),F2 l a out c⟩):=by
  have key:=L7 (step:=L0 ⟨l,(a:Int),(c:Int)⟩) (mk:=fun j (o:PLq)=>(⟨phP o,(j:Int),o⟩:q8)) c (fun j o=>j≤c∧o=(List.range j).foldl (eb4 l a c) out) (fun t s=>t=phP (F2 l a out c)+1∧∃ j:Nat,s=⟨phP (F2 l a out c),(j:Int),F2 l a out c⟩) (by omega)
    (fun j o hj hi=>by
      obtain⟨_,hi⟩:=hi
      have hlen:o.length≤990000:=by
        rw[hi]
        have:=ob0 (kc0 l a c) out j
        omega
      have hn:=n7 hj (show c<=4611686018427387904 by omega)
      have hh:∀p,V5 p l=true:=λp=>Nd5 p l (by omega)
      have hp:∀p,ga2 p l=hold p l:=λp=>De6 p l (by omega)
      have hg1:∀y,aa4 o y=true:=λy=>Nd6 o y (by omega)
      have hq1:∀y,A4 o y=ab2 o y:=λy=>ne4 o y (by omega)
      have hg2:∀y z,aa4 (ab2 o y) z=true:=λy z=>Nd6 _ z (by have:=nb9 y o;omega)
      have hq2:∀y z,A4 (ab2 o y) z=ab2 (ab2 o y) z:=λy z=>ne4 _ z (by have:=nb9 y o;omega)
      have hfl:Ha6 (u9 (gL tV l a) (gL tV l c) (gL tV l j)).1=Y4 (u9 (gL tV l a) (gL tV l c) (gL tV l j)).1:=me7 (Od5 _ _ _)
      have fin : ∀ {s : q8}, s = ⟨phP (eb4 l a c o j), ((j + 1 : Nat) : Int), eb4 l a c o j⟩ → Nx (.next s) (fun t => t = phP (F2 l a out c) + 1 ∧ ∃ j' : Nat, (⟨phP o, (j : Int), o⟩ : q8) = ⟨phP (F2 l a out c), (j' : Int), F2 l a out c⟩)
          (λs=>∃o',s=(⟨phP o',((j+1:Nat):Int),o'⟩:q8)/\(j+1<=c/\o'=(List.range (j+1)).foldl (eb4 l a c) out)):=λ{s} hs =>
        .nx ⟨_,hs,by omega,by rw[n4,<- hi]⟩
      clear hi
      unfold eb4 at fin;generalize hT:u9 (gL tV l a) (gL tV l c) (gL tV l j)=T at *
      have hb1:inB (a:Int) l.length=true:=g7 ha;have hb2:inB (c:Int) l.length=true:=g7 (by omega)
      have hb3:inB (j:Int) l.length=true:=g7 (by omega)
      cases o with
      | nil =>
        show Nx (D0 Stp.next Stp.exit Stp.fail _ _) _ _;simp only[D0,Ua0,ra4,Int.toNat_natCast,j9,O7,hT,hh,hp,hfl,hg1,hq1,hg2,hq2,hn,hb1,hb2,hb3];rw[btD (k8 hj)];cases h2:T.2 with
        |false=>exact fin (by rw[h2];rfl)
        | true =>
          cases h3:hold T.1 l with
          | false =>
            cases h4:hold (Y4 T.1) l with
            |false=>exact fin (by rw[h2,h3,h4];rfl)
            |true=>exact fin (by rw[h2,h3,h4];simp only[if_true,if_false,Hb8,Qil])
          | true =>
            cases h4:hold (Y4 T.1) l with
            |false=>exact fin (by rw[h2,h3,h4];simp only[if_true,if_false,Hb8,Qil])
            |true=>exact fin (by rw[h2,h3,h4];simp only[if_true,Hb8])
      | cons q o =>
        show Nx (D1 Stp.next Stp.exit Stp.fail _ _) _ _;simp only[D1,Ua0,ra4,Int.toNat_natCast,j9,O7,hT,hh,hp,hfl,hg1,hq1,hg2,hq2,hn,hb1,hb2,hb3];rw[btD (k8 hj)];cases h2:T.2 with
        |false=>exact fin (by rw[h2];rfl)
        | true =>
          cases h3:hold T.1 l with
          | false =>
            cases h4:hold (Y4 T.1) l with
            |false=>exact fin (by rw[h2,h3,h4];rfl)
            |true=>exact fin (by rw[h2,h3,h4];simp only[if_true,if_false,Hb8,Qil])
          | true =>
            cases h4:hold (Y4 T.1) l with
            |false=>exact fin (by rw[h2,h3,h4];simp only[if_true,if_false,Hb8,Qil])
            |true=>exact fin (by rw[h2,h3,h4];simp only[if_true,Hb8]))
    (fun j o hj hi=>by
      obtain⟨h1,hi⟩:=hi;have e:j=c:=by omega
      subst e;have hF:o=F2 l a out j:=hi;rw[<- hF];cases o with
      | nil =>
        refine⟨1,?_,rfl,j,rfl⟩;show D0 Stp.next Stp.exit Stp.fail _ _=_;simp only[D0];rw[bfD (n9 (Qed _))]
      | cons q o =>
        refine⟨2,?_,rfl,j,rfl⟩;show D1 Stp.next Stp.exit Stp.fail _ _=_;simp only[D1];rw[bfD (n9 (Qed _))]) 0 out ⟨Qee _,rfl⟩
  obtain⟨t,s,h1,rfl,j,rfl⟩:=key;exact⟨j,h1⟩
theorem wf4(l:List V3)(hl:l.length<=48)(a:Nat)(ha:a<l.length)(out:PLq)(ho:out.length<=800000) :
    ∃j,lp (L1 ⟨(a:Int)⟩) ⟨phP out,l,0,out⟩=(phP (F1 l out a)+1,⟨phP (F1 l out a),l,((j:Nat):Int),F1 l out a⟩):=by
  have hL2:∀o k,k<=48->(F2 l a o k).length<=o.length+96:=λo k hk=>by have:=ob0 (kc0 l a k) o k;show ((List.range k).foldl (eb4 l a k) o).length<=_;omega
  have hpre:∀ j,j≤a→((List.range j).foldl (F2 l a) out).length≤out.length+96*j:=by
    intro j
    induction j with
    |zero=>intro _;exact Qac _
    | succ j ih =>
      intro h;rw[n4]
      have:=ih (by omega)
      have:=hL2 ((List.range j).foldl (F2 l a) out) j (by omega)
      omega
  have key:=L7 (step:=L1 ⟨(a:Int)⟩) (mk:=fun j (o:PLq)=>(⟨phP o,l,(j:Int),o⟩:q9)) a (fun j o=>j≤a∧o=(List.range j).foldl (F2 l a) out) (fun t s=>t=phP (F1 l out a)+1∧∃ j:Nat,s=⟨phP (F1 l out a),l,(j:Int),F1 l out a⟩) (by omega)
    (fun j o hj hi=>by
      obtain⟨hja,hi⟩:=hi;have hlen:o.length<=900000:=by rw[hi];have:=hpre j hja;omega
      have hn:=n7 hj (show a<=4611686018427387904 by omega)
      obtain⟨j',e1⟩:=wf3 l hl a j ha hj o hlen
      have fin : ∀ {s : q9}, s = ⟨phP (F2 l a o j), l, ((j + 1 : Nat) : Int), F2 l a o j⟩ → Nx (.next s) (fun t => t = phP (F1 l out a) + 1 ∧ ∃ j' : Nat, (⟨phP o, l, (j : Int), o⟩ : q9) = ⟨phP (F1 l out a), l, (j' : Int), F1 l out a⟩)
          (λs=>∃o',s=(⟨phP o',l,((j+1:Nat):Int),o'⟩:q9)/\(j+1<=a/\o'=(List.range (j+1)).foldl (F2 l a) out)):=λ{s} hs =>
        .nx ⟨_,hs,by omega,by rw[n4,<- hi]⟩
      clear hi
      generalize hF:F2 l a o j=R at *
      cases o with
      | nil =>
        show Nx (D2 Stp.next Stp.exit Stp.fail _ _) _ _;simp only[D2,j9,i8,hn];have e1:lp (L0 ⟨l,(a:Int),(j:Int)⟩) ⟨0,0,[]⟩=_:=e1;rw[btD (k8 hj),e1];cases R with
        |nil=>exact fin rfl
        |cons q R=>exact fin rfl
      | cons q o =>
        show Nx (D3 Stp.next Stp.exit Stp.fail _ _) _ _;simp only[D3,j9,i8,hn];have e1:lp (L0 ⟨l,(a:Int),(j:Int)⟩) ⟨1,0,q::o⟩=_:=e1;rw[btD (k8 hj),e1];cases R with
        |nil=>exact fin rfl
        |cons q R=>exact fin rfl)
    (fun j o hj hi=>by
      obtain⟨h1,hi⟩:=hi;have e:j=a:=by omega
      subst e;have hF:o=F1 l out j:=hi;rw[<- hF];cases o with
      | nil =>
        refine⟨1,?_,rfl,j,rfl⟩;show D2 Stp.next Stp.exit Stp.fail _ _=_;simp only[D2];rw[bfD (n9 (Qed _))]
      | cons q o =>
        refine⟨2,?_,rfl,j,rfl⟩;show D3 Stp.next Stp.exit Stp.fail _ _=_;simp only[D3];rw[bfD (n9 (Qed _))]) 0 out ⟨Qee _,rfl⟩
  obtain⟨t,s,h1,rfl,j,rfl⟩:=key;exact⟨j,h1⟩
theorem wf5(l:List V3)(hl:l.length<=48) :
    ∃j,lp (ea2 ⟨⟩) ⟨0,l,0,[]⟩=(phP (F0 l)+1,⟨phP (F0 l),l,((j:Nat):Int),F0 l⟩):=by
  have hL2:∀a o k,k<=48->(F2 l a o k).length<=o.length+96:=λa o k hk=>by have:=ob0 (kc0 l a k) o k;show ((List.range k).foldl (eb4 l a k) o).length<=_;omega
  have hL1:∀ o a,a≤48→∀ j,j≤a→((List.range j).foldl (F2 l a) o).length≤o.length+96*j:=by
    intro o a ha j
    induction j with
    |zero=>intro _;exact Qac _
    | succ j ih =>
      intro h;rw[n4]
      have:=ih (by omega)
      have:=hL2 a ((List.range j).foldl (F2 l a) o) j (by omega)
      omega
  have hpre:∀ j,j≤l.length→((List.range j).foldl (F1 l) []).length≤5000*j:=by
    intro j
    induction j with
    |zero=>intro _;exact Qac _
    | succ j ih =>
      intro h;rw[n4]
      have:=ih (by omega)
      have:(F1 l ((List.range j).foldl (F1 l) []) j).length<=_:=hL1 ((List.range j).foldl (F1 l) []) j (by omega) j (Qac _)
      omega
  have key:=L7 (step:=ea2 ⟨⟩) (mk:=fun j (o:PLq)=>(⟨phP o,l,(j:Int),o⟩:r8)) l.length (fun j o=>j≤l.length∧o=(List.range j).foldl (F1 l) []) (fun t s=>t=phP (F0 l)+1∧∃ j:Nat,s=⟨phP (F0 l),l,(j:Int),F0 l⟩) (by omega)
    (fun j o hj hi=>by
      obtain⟨hja,hi⟩:=hi;have hlen:o.length<=800000:=by rw[hi];have:=hpre j hja;omega
      have hn:=n7 hj (show l.length<=4611686018427387904 by omega)
      obtain⟨j',e1⟩:=wf4 l hl j hj o hlen
      have fin : ∀ {s : r8}, s = ⟨phP (F1 l o j), l, ((j + 1 : Nat) : Int), F1 l o j⟩ → Nx (.next s) (fun t => t = phP (F0 l) + 1 ∧ ∃ j' : Nat, (⟨phP o, l, (j : Int), o⟩ : r8) = ⟨phP (F0 l), l, (j' : Int), F0 l⟩)
          (λs=>∃o',s=(⟨phP o',l,((j+1:Nat):Int),o'⟩:r8)/\(j+1<=l.length/\o'=(List.range (j+1)).foldl (F1 l) [])):=λ{s} hs =>
        .nx ⟨_,hs,by omega,by rw[n4,<- hi]⟩
      clear hi
      generalize hF:F1 l o j=R at *
      cases o with
      | nil =>
        show Nx (D4 Stp.next Stp.exit Stp.fail ⟨⟩ _) _ _;simp only[D4,j9,i8,hn];have e1:lp (L1 ⟨(j:Int)⟩) ⟨0,l,0,[]⟩=_:=e1;rw[btD (k8 hj),e1];cases R with
        |nil=>exact fin rfl
        |cons q R=>exact fin rfl
      | cons q o =>
        show Nx (D5 Stp.next Stp.exit Stp.fail ⟨⟩ _) _ _;simp only[D5,j9,i8,hn];have e1:lp (L1 ⟨(j:Int)⟩) ⟨1,l,0,q::o⟩=_:=e1;rw[btD (k8 hj),e1];cases R with
        |nil=>exact fin rfl
        |cons q R=>exact fin rfl)
    (fun j o hj hi=>by
      obtain⟨h1,hi⟩:=hi;have e:j=l.length:=by omega
      subst e;have hF:o=F0 l:=hi;rw[<- hF];cases o with
      | nil =>
        refine⟨1,?_,rfl,_,rfl⟩;show D4 Stp.next Stp.exit Stp.fail ⟨⟩ _=_;simp only[D4];rw[bfD (n9 (Qed _))]
      | cons q o =>
        refine⟨2,?_,rfl,_,rfl⟩;show D5 Stp.next Stp.exit Stp.fail ⟨⟩ _=_;simp only[D5];rw[bfD (n9 (Qed _))]) 0 [] ⟨Qee _,rfl⟩
  obtain⟨t,s,h1,rfl,j,rfl⟩:=key;exact⟨j,h1⟩
def rb8(l:List V3):PLq×Int:=if Rb8 l=0 then (F0 l,0) else ([],Rb8 l)
theorem ne5 (l:List V3) (hl:l.length≤48):Rd (two (r1L tP) r1I) (na8 l) (fun r=>r=rb8 l):=by
  obtain⟨j,e1⟩:=wf5 l hl;have hb:l.length<=1000000000:=by omega
  unfold na8 rb8;simp only[j9,i8,O7,Vc3 l hb,Xd8 l hb,l0];rw[e1];by_cases h0:Rb8 l=0
  · rw[if_pos h0,show (Rb8 l != 0)=false by rw[h0];rfl,Va2]
    cases hF:F0 l with
    |nil=>exact⟨_,([],0),rfl,rfl,rfl⟩
    |cons q o=>exact⟨_,(q::o,0),rfl,le0 (q::o) 0,rfl⟩
  · rw[if_neg h0,show (Rb8 l != 0)=true by simpa using h0,l0]
    exact⟨_,([],Rb8 l),rfl,rfl,rfl⟩
theorem ud6(l:List V3)(hl:l.length<=48):Bb7 l=rb8 l:=(ne5 l hl).p
def ac6(l:PLq)(p:Pln):Bool:=l.any λq=>eqP q p
theorem ud7(l:PLq)(p:Pln):ac6 l p=true↔p∈l:=by
 unfold ac6;rw[Qjd];exact⟨λ⟨q,h,e⟩=>by rw[ac0] at e;exact e ▸ h,λh=>⟨p,h,(ac0 p p).2 rfl⟩⟩
theorem ne6{c:PLq}(hf:ful c=true):(chk c==0)=true/\Bds (c++ws)/\me1 (c++ws):=by
 unfold ful at hf;rw[Qbd] at hf;have hb:=(fd0 hf.1).1;exact⟨hf.1,hb,(Vc7 hb (me5 c) (by simp[ws])).1 hf.2⟩
def ipt(v:V3):Pt:=⟨v.x,v.y,v.z,1⟩
theorem af9{v:V3}(h:inV v=true):∀p∈ws,0<=rmZ p (ipt v):=by
 obtain⟨⟨a1,a2⟩,⟨a3,a4⟩,a5,a6⟩:=(eb3 v).1 h;intro p hp;simp only[ws,Qbp,Qjs,or_false] at hp
 rcases hp with rfl|rfl|rfl|rfl|rfl|rfl<;>simp only[rmZ,ipt]<;>omega
theorem Jc0{p:Pln}(h:okp p=true):g3 p.n=1:=by
 unfold okp at h;simp only[Qbd,beq_iff_eq] at h;exact h.2.1
theorem Vc8{p:Pln}(h:okp p=true):p.n≠⟨0,0,0⟩:=λe=>by
 have:=Jc0 h
 rw[e] at this
 revert this
 decide
theorem ne7(c:Int)(n:V3):g3 ⟨c*n.x,c*n.y,c*n.z⟩=c.natAbs*g3 n:=by
 unfold g3;simp only[Int.natAbs_mul,Nat.gcd_mul_left];rw[Int.natCast_mul]
theorem ud8{m n:V3}(hm:g3 m=1)(hn:g3 n=1)(h:d9 m n=⟨0,0,0⟩):n=m\/n=neg m:=by
 unfold d9 at h;simp only[V3.mk.injEq] at h;obtain⟨c1,c2,c3⟩:=h;have k:∀{c d:Int},c*m.x=d*n.x->c*m.y=d*n.y->c*m.z=d*n.z->c.natAbs=d.natAbs:=λ{c d} e1 e2 e3=>by
  have a1:=ne7 c m;have a2:=ne7 d n;rw[e1,e2,e3,a2,hm,hn] at a1;omega
 have ax:=k (c:=n.x) (d:=m.x) (by grind) (by grind) (by grind)
 have ay:=k (c:=n.y) (d:=m.y) (by grind) (by grind) (by grind)
 have az:=k (c:=n.z) (d:=m.z) (by grind) (by grind) (by grind)
 have sg:∀{a c:Int},a.natAbs=c.natAbs->a=c\/a=-c:=λh=>by omega
 -- the sign of one component that is not zero is that of all
 have go:∀{s u t v:Int},u≠0->s*v=u*t->s=u->t=v:=λ{s u t v} hu h e=>by
  subst e;exact (Qjaa hu h).symm
 have gn:∀{s u t v:Int},u≠0->s*v=u*t->s=-u->t=-v:=λ{s u t v} hu h e=>by
  subst e
  have:u*t=u*(-v):=by rw[<- h];grind
  exact Qjaa hu this
 by_cases hx:m.x=0
 ·have hx':n.x=0:=by omega
  by_cases hy:m.y=0
  ·have hy':n.y=0:=by omega
   rcases sg az with e|e
   ·exact .inl (V3.ext' (by omega) (by omega) e)
   ·exact .inr (V3.ext' (by show n.x=-m.x;omega) (by show n.y=-m.y;omega) e)
  ·rcases sg ay with e|e
   ·exact .inl (V3.ext' (by omega) e (go hy (by grind) e))
   ·exact .inr (V3.ext' (by show n.x=-m.x;omega) e (gn hy (by grind) e))
 ·rcases sg ax with e|e
  ·exact .inl (V3.ext' e (go hx (by grind) e) (go hx (by grind) e))
  ·exact .inr (V3.ext' e (gn hx (by grind) e) (gn hx (by grind) e))
structure Kf5(l:List V3):Prop where
 h:∃a c k v,a∈l/\c∈l/\k∈l/\v∈l/\dot (d9 (sub c a) (sub k a)) (sub v a)≠0
theorem gLm{l:List V3}{j:Nat}(h:j<l.length):gL tV l j∈l:=Gc0 tV h
theorem bf0{l:List V3}(hf:nf0 l=true):Kf5 l:=by
 unfold nf0 at hf;obtain⟨a,ha,hf⟩:=Qjd.1 hf;unfold nf1 at hf;obtain⟨c,hc,hf⟩:=Qjd.1 hf;unfold nf2 at hf;obtain⟨k,hk,hf⟩:=Qjd.1 hf;rw[Qcj] at ha hc hk;unfold nf at hf;rw[Qbd] at hf;obtain⟨h1,h2⟩:=hf;obtain⟨⟨i1,i2,i3⟩,⟨ok,⟨g,hg,e1,e2,e3⟩,o⟩⟩:=ba9 h1;unfold me8 at h2;obtain⟨v,hv,h2⟩:=Qjd.1 h2;generalize (u9 (gL tV l a) (gL tV l c) (gL tV l k)).1=p at *
 refine⟨_,_,_,v,gLm ha,gLm (show c<l.length by omega),gLm (show k<l.length by omega),hv,λh0=>?_⟩
 have hs:Y9 p v≠0:=by simpa using h2
 have hiv:inV v=true:=by
  cases hi:inV v with
  |true=>rfl
  |false=>exact absurd (by unfold Y9;rw[ok,hi];rfl) hs
 apply hs;rw[jc9 ok hiv,o]
 have:g*(dot p.n v-dot p.n (gL tV l a))=dot (d9 (sub (gL tV l c) (gL tV l a)) (sub (gL tV l k) (gL tV l a))) (sub v (gL tV l a)):=by
  unfold dot;rw[<- e1,<- e2,<- e3];unfold sub
  grind
 rw[h0] at this
 have:=(Qja.1 this).resolve_left (by omega)
 omega
theorem ud9{a c k v n:V3}(hd:dot (d9 (sub c a) (sub k a)) (sub v a)≠0)(hn:n≠⟨0,0,0⟩)(h1:dot n c=dot n a)(h2:dot n k=dot n a)(h3:dot n v=dot n a):False:=by
 generalize hD:dot (d9 (sub c a) (sub k a)) (sub v a)=D at *
 have q1:dot n (sub c a)=0:=by unfold dot sub at *;grind
 have q2:dot n (sub k a)=0:=by unfold dot sub at *;grind
 have q3:dot n (sub v a)=0:=by unfold dot sub at *;grind
 generalize sub c a=p at *
 generalize sub k a=q at *
 generalize sub v a=r at *
 have i1:D*n.x=(d9 q r).x*dot n p+(d9 r p).x*dot n q+(d9 p q).x*dot n r:=by rw[<- hD];simp only[dot,d9];grind
 have i2:D*n.y=(d9 q r).y*dot n p+(d9 r p).y*dot n q+(d9 p q).y*dot n r:=by rw[<- hD];simp only[dot,d9];grind
 have i3:D*n.z=(d9 q r).z*dot n p+(d9 r p).z*dot n q+(d9 p q).z*dot n r:=by rw[<- hD];simp only[dot,d9];grind
 rw[q1,q2,q3] at i1 i2 i3;have z:∀{x:Int},D*x=0->x=0:=λh=>(Qja.1 h).resolve_left hd
 exact hn (V3.ext' (z (by omega)) (z (by omega)) (z (by omega)))
theorem Ea6{p:Pln}{l:List V3}(hp:okp p=true)(hl:l.all inV=true):hold p l=true↔∀v∈l,dot p.n v<=p.b:=by
 unfold hold;rw[Qdb,<- Qjt,Qjd];constructor
 ·intro h v hv;have h1:¬ Y9 p v>0:=λh'=>h ⟨v,hv,by simpa using h'⟩
  rw[ud5 hp (Qcf.1 hl v hv)] at h1;omega
 ·rintro h ⟨v,hv,h1⟩;have h1:Y9 p v>0:=by simpa using h1
  rw[ud5 hp (Qcf.1 hl v hv)] at h1
  have:=h v hv
  omega
structure Fct(l:List V3)(p:Pln):Prop where
 ok:okp p=true
 hd:hold p l=true
theorem ac7(p:Pln)(v:V3):dot (Y4 p).n v=-dot p.n v:=by unfold dot Y4;grind
theorem ne8{l:List V3}(hf:nf0 l=true){p:Pln}(hp:okp p=true):∃v∈l,dot p.n v≠p.b:=by
 obtain⟨a,c,k,v,ha,hc,hk,hv,hd⟩:=bf0 hf;by_cases h1:dot p.n a=p.b
 ·by_cases h2:dot p.n c=p.b
  ·by_cases h3:dot p.n k=p.b
   ·by_cases h4:dot p.n v=p.b
    ·exact (ud9 hd (Vc8 hp) (h2.trans h1.symm) (h3.trans h1.symm) (h4.trans h1.symm)).elim
    ·exact⟨v,hv,h4⟩
   ·exact⟨k,hk,h3⟩
  ·exact⟨c,hc,h2⟩
 ·exact⟨a,ha,h1⟩
theorem Jc1{l:List V3}(hl:l.all inV=true)(hf:nf0 l=true){u w x x':V3}(hx:x∈l)(hx':x'∈l){p p':Pln}(h:Thr u w x p)(h':Thr u w x' p')(hh:hold p l=true)(hh':hold p' l=true):p=p':=by
 obtain⟨ok,⟨g,hg,e1,e2,e3⟩,o⟩:=h;obtain⟨ok',⟨g',hg',f1,f2,f3⟩,o'⟩:=h';have b1:=(Ea6 ok hl).1 hh;have b2:=(Ea6 ok' hl).1 hh';have k1:=b1 x' hx';have k2:=b2 x hx;have d1:g*(dot p.n x'-dot p.n u)=dot (d9 (sub w u) (sub x u)) (sub x' u):=by
  unfold dot;rw[<- e1,<- e2,<- e3];unfold sub;grind
 have d2:g'*(dot p'.n x-dot p'.n u)=-dot (d9 (sub w u) (sub x u)) (sub x' u):=by
  have:g'*(dot p'.n x-dot p'.n u)=dot (d9 (sub w u) (sub x' u)) (sub x u):=by
   unfold dot;rw[<- f1,<- f2,<- f3];unfold sub;grind
  rw[this];simp only[dot,d9];grind
 have m1:g*(dot p.n x'-dot p.n u)<=0:=Qjk (by omega) (by omega)
 have m2:g'*(dot p'.n x-dot p'.n u)<=0:=Qjk (by omega) (by omega)
 have hD:dot (d9 (sub w u) (sub x u)) (sub x' u)=0:=by omega
 have hc:d9 p.n p'.n=⟨0,0,0⟩:=by
  generalize sub w u=d at *
  generalize sub x u=y at *
  generalize sub x' u=y' at *
  have c1:g*g'*(d9 p.n p'.n).x=d.x*dot (d9 d y) y':=by
   have:g*g'*(d9 p.n p'.n).x=(g*p.n.y)*(g'*p'.n.z)-(g*p.n.z)*(g'*p'.n.y):=by simp only[d9];grind
   rw[this,e2,e3,f2,f3];simp only[dot,d9];grind
  have c2:g*g'*(d9 p.n p'.n).y=d.y*dot (d9 d y) y':=by
   have:g*g'*(d9 p.n p'.n).y=(g*p.n.z)*(g'*p'.n.x)-(g*p.n.x)*(g'*p'.n.z):=by simp only[d9];grind
   rw[this,e1,e3,f1,f3];simp only[dot,d9];grind
  have c3:g*g'*(d9 p.n p'.n).z=d.z*dot (d9 d y) y':=by
   have:g*g'*(d9 p.n p'.n).z=(g*p.n.x)*(g'*p'.n.y)-(g*p.n.y)*(g'*p'.n.x):=by simp only[d9];grind
   rw[this,e1,e2,f1,f2];simp only[dot,d9];grind
  rw[hD,Qjab] at c1 c2 c3;have hgg:g*g'≠0:=Int.ne_of_gt (Qjo hg hg');exact V3.ext' ((Qja.1 c1).resolve_left hgg) ((Qja.1 c2).resolve_left hgg) ((Qja.1 c3).resolve_left hgg)
 rcases ud8 (Jc0 ok) (Jc0 ok') hc with e|e
 ·cases p with | mk n b=>cases p' with | mk n' b' =>
  simp only at e o o'
  subst e;rw[o,o']
 ·exfalso;obtain⟨v,hv,hne⟩:=ne8 hf ok;have q1:=b1 v hv;have q2:=b2 v hv;rw[o',e] at q2;have s:∀z:V3,dot (neg p.n) z=-dot p.n z:=λz=>by unfold dot neg;grind
  rw[s,s] at q2;omega
theorem Xd9(l:List V3)(a c k:Nat)(out:PLq)(p:Pln):p∈eb4 l a c out k↔p∈out\/((u9 (gL tV l a) (gL tV l c) (gL tV l k)).2=true /\
  ((p=(u9 (gL tV l a) (gL tV l c) (gL tV l k)).1/\hold p l=true)\/(p=Y4 (u9 (gL tV l a) (gL tV l c) (gL tV l k)).1/\hold p l=true))):=by
 unfold eb4;generalize u9 (gL tV l a) (gL tV l c) (gL tV l k)=T;cases h2:T.2 with
 |false=>simp
 |true =>
  simp only[if_true];cases h4:hold (Y4 T.1) l with
  |false =>
   simp only[Qil,if_false];cases h3:hold T.1 l with
   |false =>
    simp only[Qil,if_false];constructor
    ·exact λh=>.inl h
    ·rintro (h|⟨_,⟨rfl,h⟩|⟨rfl,h⟩⟩)
     ·exact h
     ·rw[h3] at h;cases h
     ·rw[h4] at h;cases h
   |true =>
    simp only[if_true,nb8];constructor
    ·rintro (rfl|h)
     ·exact .inr ⟨trivial,.inl ⟨rfl,h3⟩⟩
     ·exact .inl h
    ·rintro (h|⟨_,⟨rfl,h⟩|⟨rfl,h⟩⟩)
     ·exact .inr h
     ·exact .inl rfl
     ·rw[h4] at h;cases h
  |true =>
   simp only[if_true,nb8];cases h3:hold T.1 l with
   |false =>
    simp only[Qil,if_false];constructor
    ·rintro (rfl|h)
     ·exact .inr ⟨trivial,.inr ⟨rfl,h4⟩⟩
     ·exact .inl h
    ·rintro (h|⟨_,⟨rfl,h⟩|⟨rfl,h⟩⟩)
     ·exact .inr h
     ·rw[h3] at h;cases h
     ·exact .inl rfl
   |true =>
    simp only[if_true,nb8];constructor
    ·rintro (rfl|rfl|h)
     ·exact .inr ⟨trivial,.inr ⟨rfl,h4⟩⟩
     ·exact .inr ⟨trivial,.inl ⟨rfl,h3⟩⟩
     ·exact .inl h
    ·rintro (h|⟨_,⟨rfl,h⟩|⟨rfl,h⟩⟩)
     ·exact .inr (.inr h)
     ·exact .inr (.inl rfl)
     ·exact .inl rfl
theorem Za1{f:PLq->Nat->PLq}{Q:Nat->Pln->Prop}(h:∀o k p,p∈f o k↔p∈o\/Q k p)(o:PLq)(p:Pln):∀n,p∈(List.range n).foldl f o↔p∈o\/∃k,k<n/\Q k p
 |0=>by simp
 |n+1=>by
  rw[n4,h,Za1 h o p n];constructor
  ·rintro ((h|⟨k,hk,h⟩)|h)
   ·exact .inl h
   ·exact .inr ⟨k,by omega,h⟩
   ·exact .inr ⟨n,by omega,h⟩
  ·rintro (h|⟨k,hk,h⟩)
   ·exact .inl (.inl h)
   ·by_cases e:k=n
    ·subst e;exact .inr h
    ·exact .inl (.inr ⟨k,by omega,h⟩)
def Fq (l : List V3) (a c k : Nat) (p : Pln) : Prop := (u9 (gL tV l a) (gL tV l c) (gL tV l k)).2 = true ∧
  ((p=(u9 (gL tV l a) (gL tV l c) (gL tV l k)).1/\hold p l=true)\/(p=Y4 (u9 (gL tV l a) (gL tV l c) (gL tV l k)).1/\hold p l=true))
theorem ne9(l:List V3)(a c:Nat)(out:PLq)(p:Pln):p∈F2 l a out c↔p∈out\/∃k,k<c/\Fq l a c k p:=Za1 (λo k p=>Xd9 l a c k o p) out p c
theorem bf1(l:List V3)(a:Nat)(out:PLq)(p:Pln):p∈F1 l out a↔p∈out\/∃c,c<a/\∃k,k<c/\Fq l a c k p:=Za1 (λo c p=>ne9 l a c o p) out p a
theorem Fd5(l:List V3)(p:Pln):p∈F0 l↔∃a,a<l.length/\∃c,c<a/\∃k,k<c/\Fq l a c k p:=by
 have:=Za1 (λo a p=>bf1 l a o p) [] p l.length
 simpa [F0] using this
theorem Yd0{l:List V3}{a c:Nat}{out:PLq}{k:Nat}(h:Ea5 out):Ea5 (eb4 l a c out k):=by
 unfold eb4;split
 ·split
  ·refine ac4 _ ?_;split
   ·exact ac4 _ h
   ·exact h
  ·split
   ·exact ac4 _ h
   ·exact h
 ·exact h
theorem ob1{f:PLq->Nat->PLq}(h:∀o k,Ea5 o->Ea5 (f o k)){o:PLq}(ho:Ea5 o):∀n,Ea5 ((List.range n).foldl f o)
 |0=>ho
 |n+1=>by rw[n4];exact h _ _ (ob1 h ho n)
theorem Fd6{l:List V3}{a c:Nat}{out:PLq}(h:Ea5 out):Ea5 (F2 l a out c):=ob1 (λ_ _ h=>Yd0 h) h c
theorem oe0{l:List V3}{a:Nat}{out:PLq}(h:Ea5 out):Ea5 (F1 l out a):=ob1 (λ_ _ h=>Fd6 h) h a
theorem bf2(l:List V3):Ea5 (F0 l):=ob1 (λ_ _ h=>oe0 h) .nil l.length
theorem Yd1{l:PLq}(h:Ea5 l):l.Nodup:=List.Pairwise.imp (λ{x y} (h:LtP x y) (e:x=y)=>vc8 y (e ▸ h)) h
theorem bf3{l:List V3}(hl:l.all inV=true)(hf:nf0 l=true){a c:Nat}(ha:a<l.length)(hc:c<a){out:PLq}(ho:Ea5 out):(F2 l a out c).length<=out.length+2:=by
 have hk:∀k,k<c->gL tV l k∈l:=λk hk=>gLm (show k<l.length by omega)
 -- the two that there may be
 have one:∃P,∀k,k<c->∀p,(u9 (gL tV l a) (gL tV l c) (gL tV l k)).2=true->p=(u9 (gL tV l a) (gL tV l c) (gL tV l k)).1->hold p l=true->p=P:=by
  by_cases h:∃k,k<c/\(u9 (gL tV l a) (gL tV l c) (gL tV l k)).2=true/\hold (u9 (gL tV l a) (gL tV l c) (gL tV l k)).1 l=true
  ·obtain⟨k0,h1,h2,h3⟩:=h;refine⟨(u9 (gL tV l a) (gL tV l c) (gL tV l k0)).1,λk hk1 p h4 h5 h6=>?_⟩
   subst h5;exact Jc1 hl hf (hk k hk1) (hk k0 h1) (ba9 h4).2 (ba9 h2).2 h6 h3
  ·exact⟨⟨⟨0,0,0⟩,0⟩,λk hk1 p h4 h5 h6=>(h ⟨k,hk1,h4,h5 ▸ h6⟩).elim⟩
 have two:∃Q,∀k,k<c->∀p,(u9 (gL tV l a) (gL tV l c) (gL tV l k)).2=true->p=Y4 (u9 (gL tV l a) (gL tV l c) (gL tV l k)).1->hold p l=true->p=Q:=by
  -- through the same points in the other order
  have sw:∀{x:V3} {p:Pln},Thr (gL tV l a) (gL tV l c) x p->Thr (gL tV l c) (gL tV l a) x (Y4 p):=λ{x p} h=>by
   obtain⟨ok,⟨g,hg,e1,e2,e3⟩,o⟩:=h;have on:dot p.n (gL tV l c)=dot p.n (gL tV l a):=by
    have:g*(dot p.n (gL tV l c)-dot p.n (gL tV l a))=0:=by
     have:g*(dot p.n (gL tV l c)-dot p.n (gL tV l a))=dot (d9 (sub (gL tV l c) (gL tV l a)) (sub x (gL tV l a))) (sub (gL tV l c) (gL tV l a)):=by
      unfold dot;rw[<- e1,<- e2,<- e3];unfold sub;grind
     rw[this];simp only[dot,d9];grind
    have:=(Qja.1 this).resolve_left (by omega)
    omega
   refine⟨Eb1 ok,⟨g,hg,?_,?_,?_⟩,?_⟩
   ·show g*-p.n.x=_;rw[Qjq,e1];simp only[d9,sub];grind
   ·show g*-p.n.y=_;rw[Qjq,e2];simp only[d9,sub];grind
   ·show g*-p.n.z=_;rw[Qjq,e3];simp only[d9,sub];grind
   ·rw[ac7,on,<- o];rfl
  by_cases h:∃k,k<c/\(u9 (gL tV l a) (gL tV l c) (gL tV l k)).2=true/\hold (Y4 (u9 (gL tV l a) (gL tV l c) (gL tV l k)).1) l=true
  ·obtain⟨k0,h1,h2,h3⟩:=h;refine⟨Y4 (u9 (gL tV l a) (gL tV l c) (gL tV l k0)).1,λk hk1 p h4 h5 h6=>?_⟩
   subst h5;exact Jc1 hl hf (hk k hk1) (hk k0 h1) (sw (ba9 h4).2) (sw (ba9 h2).2) h6 h3
  ·exact⟨⟨⟨0,0,0⟩,0⟩,λk hk1 p h4 h5 h6=>(h ⟨k,hk1,h4,h5 ▸ h6⟩).elim⟩
 obtain⟨P,hP⟩:=one;obtain⟨Q,hQ⟩:=two;have hs:F2 l a out c⊆out++[P,Q]:=λp hp=>by
  rcases (ne9 l a c out p).1 hp with h|⟨k,hk1,h1,⟨h2,h3⟩|⟨h2,h3⟩⟩
  ·exact Qbn _ h
  ·rw[hP k hk1 p h1 h2 h3];simp
  ·rw[hQ k hk1 p h1 h2 h3];simp
 have:=List.Nodup.length_le_of_subset (Yd1 (Fd6 ho)) hs
 simpa using this
theorem De7(l:List V3)(a:Nat)(out:PLq):F2 l a out 0=out:=rfl
theorem oe1{l:List V3}(hl:l.all inV=true)(hf:nf0 l=true){a:Nat}(ha:a<l.length){out:PLq}(ho:Ea5 out):∀n,n<=a->((List.range n).foldl (F2 l a) out).length<=out.length+2*(n-1)
 |0,_=>by simp
 |1,_=>by
  show (F2 l a out 0).length<=_;rw[De7];omega
 |n+2,h=>by
  rw[n4];have h1:=oe1 hl hf ha ho (n+1) (by omega)
  have h2:=bf3 hl hf ha (show n+1<a by omega) (ob1 (f:=F2 l a) (λ_ _ h=>Fd6 h) ho (n+1))
  omega
theorem bf4{l:List V3}(hl:l.all inV=true)(hf:nf0 l=true)(h8:l.length<=8):(F0 l).length<=42:=by
 have h:∀n,n<=l.length->((List.range n).foldl (F1 l) []).length<=(n-1)*(n-2):=by
  intro n
  induction n with
  |zero=>intro _;exact Qac _
  |succ n ih =>
   intro hn;rw[n4];have h1:=ih (by omega)
   have h2:(F1 l ((List.range n).foldl (F1 l) []) n).length<=_:=oe1 hl hf (show n<l.length by omega) (ob1 (f:=F1 l) (λ_ _ h=>oe0 h) .nil n) n (Qac _)
   match n,hn with
   |0,_=>simpa using h2
   |1,_ =>
    have h1:((List.range 1).foldl (F1 l) []).length<=0:=h1;have h2:(F1 l ((List.range 1).foldl (F1 l) []) 1).length<=((List.range 1).foldl (F1 l) []).length+2*(1-1):=h2;show (F1 l ((List.range 1).foldl (F1 l) []) 1).length<=0;omega
   |2,_=>simp at h1 h2 ⊢;omega
   |3,_=>simp at h1 h2 ⊢;omega
   |4,_=>simp at h1 h2 ⊢;omega
   |5,_=>simp at h1 h2 ⊢;omega
   |6,_=>simp at h1 h2 ⊢;omega
   |7,_=>simp at h1 h2 ⊢;omega
   |n+8,hn=>omega
 have h1:=h l.length (Qac _);show ((List.range l.length).foldl (F1 l) []).length<=42
 have:∀n,n<=8->(n-1)*(n-2)<=42:=by decide
 have:=this l.length h8
 omega
theorem Fd7{l:List V3}{p:Pln}(hp:p∈F0 l):Fct l p:=by
 obtain⟨a,ha,c,hc,k,hk,h1,⟨h2,h3⟩|⟨h2,h3⟩⟩:=(Fd5 l p).1 hp
 ·exact⟨h2 ▸ (ba9 h1).2.ok,h3⟩
 ·exact⟨h2 ▸ Eb1 (ba9 h1).2.ok,h3⟩
theorem De8{l:List V3}(hl:l.all inV=true)(hf:nf0 l=true):me1 (F0 l++ws):=by
 obtain⟨a,c,k,v,ha,hc,hk,hv,hd⟩:=bf0 hf;have hin:=Qcf.1 hl
 -- a plane on whose Y9 all bf0 lie has their middle within
 have key:∀p:Pln,p.n≠⟨0,0,0⟩->dot p.n a<=p.b->dot p.n c<=p.b->dot p.n k<=p.b->dot p.n v<=p.b->0<rmZ p ⟨a.x+c.x+k.x+v.x,a.y+c.y+k.y+v.y,a.z+c.z+k.z+v.z,4⟩:=λp hn h1 h2 h3 h4=>by
  have e:rmZ p ⟨a.x+c.x+k.x+v.x,a.y+c.y+k.y+v.y,a.z+c.z+k.z+v.z,4⟩=(p.b-dot p.n a)+(p.b-dot p.n c)+(p.b-dot p.n k)+(p.b-dot p.n v):=by simp only[rmZ,dot];grind
  rw[e];by_cases q:dot p.n a=p.b/\dot p.n c=p.b/\dot p.n k=p.b/\dot p.n v=p.b
  ·obtain⟨q1,q2,q3,q4⟩:=q;exact (ud9 hd hn (q2.trans q1.symm) (q3.trans q1.symm) (q4.trans q1.symm)).elim
  ·omega
 refine⟨⟨a.x+c.x+k.x+v.x,a.y+c.y+k.y+v.y,a.z+c.z+k.z+v.z,4⟩,by show (0:Int)<4;omega,λp hp=>?_⟩
 rcases Qii.1 hp with h|h
 ·have hF:=Fd7 h;have hb:=(Ea6 hF.ok hl).1 hF.hd;exact key p (Vc8 hF.ok) (hb a ha) (hb c hc) (hb k hk) (hb v hv)
 ·have hw : ∀ x ∈ l, dot p.n x ≤ p.b := fun x hx => by
   have:=af9 (hin x hx) p h
   simp only[rmZ,ipt,dot] at this ⊢;omega
  refine key p ?_ (hw a ha) (hw c hc) (hw k hk) (hw v hv);have h1:∀q∈ws,okp q=true:=Qcf.1 (by decide)
  exact Vc8 (h1 p h)
theorem oe2(l:List Int):Rd (one r1P) (ga9 l) (λp=>okp p=true):=by
 unfold ga9;simp only[j9,i8];obtain⟨v1,j1,e1,a1,b1,c1,d1⟩:=M9 8 l 0 (by omega) (by omega) (by omega) (by omega)
 rw[e1]
 simp only
 obtain⟨v2,j2,e2,a2,b2,c2,d2⟩:=M9 17 l j1 (by omega) (by omega) (by omega) (by omega)
 rw[e2]
 simp only
 obtain⟨x1,x2,x3,j3,e3,_,_,_,c3,d3⟩:=Za0 8 l j2 (by omega) (by omega) (by omega) (by omega)
 rw[e3]
 simp only
 obtain⟨y1,y2,y3,j4,e4,_,_,_,c4,d4⟩:=Za0 8 l j3 (by omega) (by omega) (by omega) (by omega)
 rw[e4]
 simp only
 obtain⟨z1,z2,z3,j5,e5,_,_,_,c5,d5⟩:=Za0 8 l j4 (by omega) (by omega) (by omega) (by omega)
 rw[e5];simp only[Ua0,ra4,Nd0 _ (show (0:Int)<3 by omega) (by omega),i8]
 simp only[Qib,Qia,l0];have w2:W (v2-8)=v2-8:=E7 (by omega) (by omega)
 have w1:W (1-W (2*Int.tmod v1 2))=1\/W (1-W (2*Int.tmod v1 2))=-1:=by
  have h:=Int.tmod_nonneg 2 a1;have h2:=Int.tmod_lt_of_pos v1 (show (0:Int)<2 by omega)
  rw[E7 (n:=2*Int.tmod v1 2) (by omega) (by omega),E7 (by omega) (by omega)]
  omega
 rw[w2];generalize W (1-W (2*Int.tmod v1 2))=s at *
 have ax:∀{a c d:Int},(a=s/\c=0/\d=0)\/(a=0/\c=s/\d=0)\/(a=0/\c=0/\d=s)->okp ⟨⟨a,c,d⟩,v2-8⟩=true:=λh=>by
  unfold okp;simp only[List.all_cons,List.all_nil,Qia,Qbd,wa7,beq_iff_eq,Sm]
  rcases h with⟨rfl,rfl,rfl⟩|⟨rfl,rfl,rfl⟩|⟨rfl,rfl,rfl⟩<;>rcases w1 with rfl|rfl<;>exact⟨by omega,by decide,by omega⟩
 have r1:Rd (one r1P) (some (.agg [i 0,i s,i 0,i (v2-8)],[])) (λp=>okp p=true):=⟨_,⟨⟨0,s,0⟩,v2-8⟩,rfl,rfl,ax (.inr (.inl ⟨rfl,rfl,rfl⟩))⟩
 have r2:Rd (one r1P) (some (.agg [i 0,i 0,i s,i (v2-8)],[])) (λp=>okp p=true):=⟨_,⟨⟨0,0,s⟩,v2-8⟩,rfl,rfl,ax (.inr (.inr ⟨rfl,rfl,rfl⟩))⟩
 have r3:Rd (one r1P) (some (.agg [i s,i 0,i 0,i (v2-8)],[])) (λp=>okp p=true):=⟨_,⟨⟨s,0,0⟩,v2-8⟩,rfl,rfl,ax (.inl ⟨rfl,rfl,rfl⟩)⟩
 refine Rd.sl (λ_=>Rd.sl (λh=>?_) λ_=>?_) (λ_=>?_)
 ·exact⟨_,(u9 ⟨x1,x2,x3⟩ ⟨y1,y2,y3⟩ ⟨z1,z2,z3⟩).1,rfl,rfl,(ba9 h).2.ok⟩
 ·exact Rd.sl (λ_=>r1) λ_=>Rd.sl (λ_=>r2) λ_=>r3
 ·exact Rd.sl (λ_=>r1) λ_=>Rd.sl (λ_=>r2) λ_=>r3
theorem De9(l:List Int):okp (na5 l)=true:=(oe2 l).p
theorem Vc9:g3 ⟨1,0,0⟩=1/\g3 ⟨-1,0,0⟩=1/\g3 ⟨0,1,0⟩=1/\g3 ⟨0,-1,0⟩=1/\g3 ⟨0,0,1⟩=1/\g3 ⟨0,0,-1⟩=1:=by decide
structure ac8(c:PLq):Prop where
 l:c.length<=47
 v:∀p∈c,okp p=true
 f:me1 (c++ws)
theorem ac8.chk{c:PLq}(h:ac8 c):(chk c==0)=true:=by
 rw[beq_iff_eq,sd9];exact⟨by have:=h.l;omega,h.v⟩
theorem ac8.bds{c:PLq}(h:ac8 c):Bds (c++ws):=(fd0 h.chk).1
theorem ac8.ful{c:PLq}(h:ac8 c):ful c=true:=by
 unfold Ce.ful;rw[h.chk,(Vc7 h.bds (me5 c) (by simp[ws])).2 h.f]
 rfl
theorem oe3{lo hi:V3}(h1:Sm 20 lo.x/\Sm 20 lo.y/\Sm 20 lo.z)(h2:Sm 20 hi.x/\Sm 20 hi.y/\Sm 20 hi.z)(h3:lo.x<hi.x/\lo.y<hi.y/\lo.z<hi.z):ac8 (Rb7 lo hi):=by
 obtain⟨⟨a1,a2⟩,⟨a3,a4⟩,a5,a6⟩:=h1;obtain⟨⟨b1,b2⟩,⟨b3,b4⟩,b5,b6⟩:=h2;obtain⟨c1,c2,c3⟩:=h3;have w:∀{x:Int},-20<=x->x<=20->W (0-x)=-x:=λh h'=>by rw[E7 (by omega) (by omega)];omega
 have e:Rb7 lo hi=[⟨⟨1,0,0⟩,hi.x⟩,⟨⟨-1,0,0⟩,-lo.x⟩,⟨⟨0,1,0⟩,hi.y⟩,⟨⟨0,-1,0⟩,-lo.y⟩,⟨⟨0,0,1⟩,hi.z⟩,⟨⟨0,0,-1⟩,-lo.z⟩]:=by
  unfold Rb7;rw[w a1 a2,w a3 a4,w a5 a6]
 rw[e];refine⟨by simp,λp hp=>?_,⟨⟨lo.x+hi.x,lo.y+hi.y,lo.z+hi.z,2⟩,by show (0:Int)<2;omega,λp hp=>?_⟩⟩
 ·simp only[Qbp,Qjs,or_false] at hp;unfold okp;simp only[List.all_cons,List.all_nil,Qia,Qbd,wa7,beq_iff_eq,Sm]
  rcases hp with rfl|rfl|rfl|rfl|rfl|rfl<;>exact⟨by simp,by first|exact Vc9.1|exact Vc9.2.1|exact Vc9.2.2.1|exact Vc9.2.2.2.1|exact Vc9.2.2.2.2.1|exact Vc9.2.2.2.2.2,by simp only;omega⟩
 ·simp only[ws,List.cons_append,List.nil_append,Qbp,Qjs,or_false] at hp
  rcases hp with rfl|rfl|rfl|rfl|rfl|rfl|rfl|rfl|rfl|rfl|rfl|rfl<;>simp only[rmZ]<;>omega
theorem Wc0{l:List V3}(h:Rb8 l=0):l.all inV=true/\nf0 l=true:=by
 unfold Rb8 at h
 split at h
 ·omega
 ·split at h
  ·rename_i h2
   split at h
   ·rename_i h3;exact⟨h2,h3⟩
   ·omega
  ·omega
theorem Yd2{l:List V3}(h:Rb8 l=0)(h8:l.length<=8):ac8 (F0 l):=by
 obtain⟨h1,h2⟩:=Wc0 h;exact⟨by have:=bf4 h1 h2 h8;omega,λp hp=>(Fd7 hp).ok,De8 h1 h2⟩
end Go.Ev.Ce
namespace Go.Ev.Ce
def P9(a b:V3):V3:=⟨a.x-b.x,a.y-b.y,a.z-b.z⟩
def N3(u w x:V3):V3:=d9 (P9 w u) (P9 x u)
def vb7:List V3->V3
 |[]=>⟨0,0,0⟩
 |v::l=>⟨v.x+(vb7 l).x,v.y+(vb7 l).y,v.z+(vb7 l).z⟩
def ac9:List Int->Int
 |[]=>0
 |x::l=>x+ac9 l
theorem vd0(n:V3):∀l:List V3,dot n (vb7 l)=ac9 (l.map (dot n))
 |[]=>by simp[vb7,ac9,dot]
 |v::l=>by
  have:=vd0 n l
  simp only[Qbw,ac9,<- this];simp only[vb7,dot]
  grind
theorem vd1(m s:Int):∀l:List Int,ac9 (l.map λa=>m*a-s)=m*ac9 l-s*l.length
 |[]=>by simp[ac9]
 |a::l=>by
  have:=vd1 m s l
  simp only[Qbw,ac9,this,List.length_cons]
  grind
theorem oc0:∀{l:List Int},(∀a∈l,a<=0)->ac9 l<=0
 |[],_=>by simp[ac9]
 |a::l,h=>by
  have:=oc0 (l:=l) λx hx=>h x (Qcn _ hx)
  have:=h a Qck
  simp only[ac9];omega
theorem kc1:∀{l:List Int},(∀a∈l,a<=0)->ac9 l=0->∀a∈l,a=0
 |[],_,_=>λa ha=>by cases ha
 |a::l,h,h0=>by
  have h1:=oc0 (l:=l) λx hx=>h x (Qcn _ hx)
  have h2:=h a Qck;simp only[ac9] at h0;intro b hb
  rcases Qbp.1 hb with rfl|hb
  ·omega
  ·exact kc1 (l:=l) (λx hx=>h x (Qcn _ hx)) (by omega) b hb
def Sol(l:List V3):Prop:=∃a c k v,a∈l/\c∈l/\k∈l/\v∈l/\dot (N3 a c k) (P9 v a)≠0
theorem Sol.off{l:List V3}(h:Sol l){n:V3}(hn:n≠⟨0,0,0⟩)(b:Int):∃v∈l,dot n v≠b:=by
 obtain⟨a,c,k,v,ha,hc,hk,hv,hd⟩:=h;by_cases h1:dot n a=b
 ·by_cases h2:dot n c=b
  ·by_cases h3:dot n k=b
   ·by_cases h4:dot n v=b
    ·exfalso;unfold N3 at hd;generalize hD:dot (d9 (P9 c a) (P9 k a)) (P9 v a)=D at *
     have q1:dot n (P9 c a)=0:=by unfold dot P9 at *;grind
     have q2:dot n (P9 k a)=0:=by unfold dot P9 at *;grind
     have q3:dot n (P9 v a)=0:=by unfold dot P9 at *;grind
     generalize P9 c a=p at *
     generalize P9 k a=q at *
     generalize P9 v a=r at *
     have i1:D*n.x=(d9 q r).x*dot n p+(d9 r p).x*dot n q+(d9 p q).x*dot n r:=by rw[<- hD];simp only[dot,d9];grind
     have i2:D*n.y=(d9 q r).y*dot n p+(d9 r p).y*dot n q+(d9 p q).y*dot n r:=by rw[<- hD];simp only[dot,d9];grind
     have i3:D*n.z=(d9 q r).z*dot n p+(d9 r p).z*dot n q+(d9 p q).z*dot n r:=by rw[<- hD];simp only[dot,d9];grind
     rw[q1,q2,q3] at i1 i2 i3;have z:∀{x:Int},D*x=0->x=0:=λh=>(Qja.1 h).resolve_left hd
     exact hn (V3.ext' (z (by omega)) (z (by omega)) (z (by omega)))
    ·exact⟨v,hv,h4⟩
   ·exact⟨k,hk,h3⟩
  ·exact⟨c,hc,h2⟩
 ·exact⟨a,ha,h1⟩
theorem Sol.ne{l:List V3}(h:Sol l):∃v,v∈l:=by obtain⟨a,_,_,_,ha,_⟩:=h;exact⟨a,ha⟩
structure Fac(l:List V3)(n:V3)(b:Int):Prop where
 hd:∀v∈l,dot n v<=b
 on:∃u w x,u∈l/\w∈l/\x∈l/\N3 u w x≠⟨0,0,0⟩/\dot n u=b/\dot n w=b/\dot n x=b
def wf6(l:List V3)(c:List Pln):Prop:=∀n b,n≠⟨0,0,0⟩->Fac l n b->∃s t:Int,0<s/\0<t/\∃q∈c,t*q.n.x=s*n.x/\t*q.n.y=s*n.y/\t*q.n.z=s*n.z/\t*q.b=s*b
def pol(m:Int)(S v:V3):Pln:=⟨⟨m*v.x-S.x,m*v.y-S.y,m*v.z-S.z⟩,1⟩
theorem Ee0(m:Int)(S v d:V3):dot (pol m S v).n d=m*dot d v-dot d S:=by simp only[dot,pol];grind
theorem vd2(l:List V3)(d:V3):ac9 (l.map λv=>(l.length:Int)*dot d v-dot d (vb7 l))=0:=by
 have h:=vd1 (l.length:Int) (dot d (vb7 l)) (l.map (dot d));rw[List.map_map] at h;have e:((λa=>(l.length:Int)*a-dot d (vb7 l))∘dot d)=λv=>(l.length:Int)*dot d v-dot d (vb7 l):=rfl
 rw[e] at h;rw[h,<- vd0,List.length_map]
 grind
theorem Yd3{a b:V3}(h:dot a b≠0):b≠⟨0,0,0⟩:=λe=>h (by subst e;simp[dot])
theorem Fd8{a b:V3}(h:dot a b≠0):a≠⟨0,0,0⟩:=λe=>h (by subst e;simp[dot])
theorem Od6{l:List V3}(h:Sol l):0<(l.length:Int):=by
 obtain⟨v,hv⟩:=h.ne
 grind
theorem Ee1{l:List V3}(h:Sol l):Bdd (l.map (pol l.length (vb7 l))):=λd hd=>by
 by_cases hh:∃p∈l.map (pol l.length (vb7 l)),0<dot p.n d
 ·exact hh
 exfalso;have hm:=Od6 h;have hall:∀a∈l.map (λv=>(l.length:Int)*dot d v-dot d (vb7 l)),a<=0:=λa ha=>by
  obtain⟨v,hv,rfl⟩:=Qbz.1 ha;refine Int.not_lt.1 λh'=>hh ⟨pol l.length (vb7 l) v,Qbz.2 ⟨v,hv,rfl⟩,?_⟩
  rw[Ee0];omega
 have hz:=kc1 hall (vd2 l d);obtain⟨a,ha⟩:=h.ne;obtain⟨v,hv,hne⟩:=h.off hd (dot d a);have e1:=hz _ (Qbz.2 ⟨a,ha,rfl⟩);have e2:=hz _ (Qbz.2 ⟨v,hv,rfl⟩);apply hne
 have:(l.length:Int)*(dot d v-dot d a)=0:=by grind
 have:=(Qja.1 this).resolve_left (by omega)
 omega
theorem Yd4{l:List V3}(h4:Sol l){c:List Pln}(hc:wf6 l c){x:Pt}(hx:Inr c x){h:Pln}(hh:∀v∈l,dot h.n v<=h.b):0<=rmZ h x:=by
 have hm:=Od6 h4;have hr:=Ee1 h4;generalize hS:vb7 l=S at hr;generalize hM:(l.length:Int)=m at hr hm
 -- the linear function on the polar
 have hv:∀y,Cn (l.map (pol m S)) y->0<=rmZ ⟨⟨m*x.px-x.pw*S.x,m*x.py-x.pw*S.y,m*x.pz-x.pw*S.z⟩,x.pw⟩ y:=λy hy=>by
  obtain⟨p1,p2,p3,hp1,hp2,hp3,hw,e1,e2,e3⟩:=hy.c;obtain⟨v1,m1,rfl⟩:=Qbz.1 hp1;obtain⟨v2,m2,rfl⟩:=Qbz.1 hp2;obtain⟨v3,m3,rfl⟩:=Qbz.1 hp3;have rp:∀v,rmZ (pol m S v) y=y.pw-(m*dot ⟨y.px,y.py,y.pz⟩ v-dot ⟨y.px,y.py,y.pz⟩ S):=λv=>by simp only[rmZ,pol,dot];grind
  rw[rp] at e1 e2 e3;have hn3:dot (pol m S v1).n (N3 v1 v2 v3)≠0:=λh0=>hw (by
   have:mw (pol m S v1) (pol m S v2) (pol m S v3)=m*m*dot (pol m S v1).n (N3 v1 v2 v3):=by simp only[mw,pol,dot,N3,d9,P9];grind
   rw[this,h0,Qjab])
  have hne:N3 v1 v2 v3≠⟨0,0,0⟩:=Yd3 hn3;have hfac:Fac l ⟨m*y.px,m*y.py,m*y.pz⟩ (y.pw+dot ⟨y.px,y.py,y.pz⟩ S):=by
   have ed:∀v,dot ⟨m*y.px,m*y.py,m*y.pz⟩ v=m*dot ⟨y.px,y.py,y.pz⟩ v:=λv=>by simp only[dot];grind
   refine⟨λv hv=>?_,v1,v2,v3,m1,m2,m3,hne,?_,?_,?_⟩
   ·have:=hy.h (pol m S v) (Qbz.2 ⟨v,hv,rfl⟩)
    rw[rp] at this;rw[ed];omega
   ·rw[ed];omega
   ·rw[ed];omega
   ·rw[ed];omega
  have hyn:(⟨m*y.px,m*y.py,m*y.pz⟩:V3)≠⟨0,0,0⟩:=λe=>by
   have k:∀{a:Int},m*a=0->a=0:=λh=>(Qja.1 h).resolve_left (by omega)
   simp only[V3.mk.injEq] at e;have a1:=k e.1;have a2:=k e.2.1;have a3:=k e.2.2;rw[a1,a2,a3] at e1;have hw:=hy.w;simp only[dot] at e1;simp only[Qjm,Int.add_zero,Qjab,Int.sub_zero] at e1;omega
  obtain⟨s,t,hs,ht,q,hq,f1,f2,f3,f4⟩:=hc _ _ hyn hfac;have hxq:=hx.h q hq;have e:t*rmZ q x=s*rmZ ⟨⟨m*x.px-x.pw*S.x,m*x.py-x.pw*S.y,m*x.pz-x.pw*S.z⟩,x.pw⟩ y:=by
   have:t*rmZ q x=(t*q.b)*x.pw-((t*q.n.x)*x.px+(t*q.n.y)*x.py+(t*q.n.z)*x.pz):=by simp only[rmZ];grind
   rw[this,f1,f2,f3,f4];simp only[rmZ,dot];grind
  have h1:=Qjb (Qjc ht) hxq;rw[e] at h1;exact Qju h1 hs
 by_cases hn:h.n=⟨0,0,0⟩
 ·obtain⟨v,hv⟩:=h4.ne;have h1:=hh v hv;have e:rmZ h x=h.b*x.pw:=by simp only[rmZ,hn];grind
  rw[e];rw[hn] at h1;simp only[dot,Qjm,Int.add_zero] at h1;exact Qjb h1 (Qjc hx.w)
 ·-- the polar point of h
  have hall:∀a∈l.map (λv=>(l.length:Int)*dot h.n v-dot h.n (vb7 l)),a<=(l.length:Int)*h.b-dot h.n (vb7 l):=λa ha=>by
   obtain⟨v,hv,rfl⟩:=Qbz.1 ha
   have:=Qjv (hh v hv) (show 0<=(l.length:Int) by omega)
   omega
  have hpos:0<m*h.b-dot h.n S:=by
   rw[<- hM,<- hS];by_cases h0:0<(l.length:Int)*h.b-dot h.n (vb7 l)
   ·exact h0
   exfalso;have hz:=kc1 (λa ha=>by have:=hall a ha;omega) (vd2 l h.n)
   obtain⟨v,hv,hne⟩:=h4.off hn h.b;have e1:=hz _ (Qbz.2 ⟨v,hv,rfl⟩);have h2:=hh v hv
   have:(l.length:Int)*dot h.n v<(l.length:Int)*h.b:=Int.mul_lt_mul_of_pos_left (by omega) (by omega)
   omega
  have hy:Inr (l.map (pol m S)) ⟨h.n.x,h.n.y,h.n.z,m*h.b-dot h.n S⟩:=⟨hpos,λp hp=>by
   obtain⟨v,hv,rfl⟩:=Qbz.1 hp;have e:rmZ (pol m S v) ⟨h.n.x,h.n.y,h.n.z,m*h.b-dot h.n S⟩=m*(h.b-dot h.n v):=by simp only[rmZ,pol,dot];grind
   rw[e];exact Qjb (by omega) (by have:=hh v hv;omega)⟩
  have h1:=ub7 hr hv hy;have e:rmZ ⟨⟨m*x.px-x.pw*S.x,m*x.py-x.pw*S.y,m*x.pz-x.pw*S.z⟩,x.pw⟩ ⟨h.n.x,h.n.y,h.n.z,m*h.b-dot h.n S⟩=m*rmZ h x:=by simp only[rmZ,dot];grind
  rw[e] at h1;exact Qju h1 hm
end Go.Ev.Ce
namespace Go.Ev.Ce
open Go Go.Ev Go.Ev.L Go.Proofs
theorem Ee2{v:V3}(h:g3 v=0):v=⟨0,0,0⟩:=by
 unfold g3 at h;have h:Nat.gcd (Nat.gcd v.x.natAbs v.y.natAbs) v.z.natAbs=0:=by omega
 rw[Nat.gcd_eq_zero_iff,Nat.gcd_eq_zero_iff] at h;exact V3.ext' (by show v.x=0;omega) (by show v.y=0;omega) (by show v.z=0;omega)
theorem bc0{a c k:V3}(ha:inV a=true)(hc:inV c=true)(hk:inV k=true)(h:N3 a c k≠⟨0,0,0⟩):(u9 a c k).2=true:=by
 unfold u9;rw[ha,hc,hk];simp only[Qjg,if_true];rw[if_neg (λh0=>h (Ee2 h0):¬ g3 (d9 (sub c a) (sub k a))=0)]
theorem Wc1{a c k:V3}{p:Pln}(h:Thr a c k p):N3 a c k≠⟨0,0,0⟩:=λe=>by
 obtain⟨ok,⟨g,hg,e1,e2,e3⟩,_⟩:=h;have e':d9 (sub c a) (sub k a)=⟨0,0,0⟩:=e;rw[e'] at e1 e2 e3;have z:∀{x:Int},g*x=0->x=0:=λh=>(Qja.1 h).resolve_left (by omega)
 exact Vc8 ok (V3.ext' (z e1) (z e2) (z e3))
theorem Jc2{a c k:V3}{p:Pln}(h:Thr a c k p):dot p.n a=p.b/\dot p.n c=p.b/\dot p.n k=p.b:=by
 obtain⟨ok,⟨g,hg,e1,e2,e3⟩,o⟩:=h;have z:∀{x y:Int},g*(x-y)=0->x=y:=λh=>by have:=(Qja.1 h).resolve_left (by omega);omega
 refine⟨o.symm,?_,?_⟩
 ·rw[o];apply z
  have:g*(dot p.n c-dot p.n a)=(g*p.n.x)*(c.x-a.x)+(g*p.n.y)*(c.y-a.y)+(g*p.n.z)*(c.z-a.z):=by simp only[dot];grind
  rw[this,e1,e2,e3];simp only[d9,sub];grind
 ·rw[o];apply z
  have:g*(dot p.n k-dot p.n a)=(g*p.n.x)*(k.x-a.x)+(g*p.n.y)*(k.y-a.y)+(g*p.n.z)*(k.z-a.z):=by simp only[dot];grind
  rw[this,e1,e2,e3];simp only[d9,sub];grind
theorem Hb9(p:Pln)(v:V3):dot (Y4 p).n v=(Y4 p).b↔dot p.n v=p.b:=by
 rw[ac7];show -dot p.n v=-p.b↔_;omega
theorem vd3{a c k:V3}{p q:Pln}(h:Thr a c k q)(hp:okp p=true)(t1:dot p.n a=p.b)(t2:dot p.n c=p.b)(t3:dot p.n k=p.b):p=q\/p=Y4 q:=by
 obtain⟨s1,s2,s3⟩:=Jc2 h;obtain⟨ok,⟨g,hg,e1,e2,e3⟩,o⟩:=h;have d1:dot p.n (sub c a)=0:=by simp only[dot,sub] at *;grind
 have d2:dot p.n (sub k a)=0:=by simp only[dot,sub] at *;grind
 have hc:d9 q.n p.n=⟨0,0,0⟩:=by
  have z:∀{x:Int},g*x=0->x=0:=λh=>(Qja.1 h).resolve_left (by omega)
  generalize sub c a=u at *
  generalize sub k a=w at *
  refine V3.ext' (z ?_) (z ?_) (z ?_)
  ·have:g*(d9 q.n p.n).x=(g*q.n.y)*p.n.z-(g*q.n.z)*p.n.y:=by simp only[d9];grind
   rw[this,e2,e3]
   have:(d9 u w).y*p.n.z-(d9 u w).z*p.n.y=w.x*dot p.n u-u.x*dot p.n w:=by simp only[d9,dot];grind
   rw[this,d1,d2];simp
  ·have:g*(d9 q.n p.n).y=(g*q.n.z)*p.n.x-(g*q.n.x)*p.n.z:=by simp only[d9];grind
   rw[this,e1,e3]
   have:(d9 u w).z*p.n.x-(d9 u w).x*p.n.z=w.y*dot p.n u-u.y*dot p.n w:=by simp only[d9,dot];grind
   rw[this,d1,d2];simp
  ·have:g*(d9 q.n p.n).z=(g*q.n.x)*p.n.y-(g*q.n.y)*p.n.x:=by simp only[d9];grind
   rw[this,e1,e2]
   have:(d9 u w).x*p.n.y-(d9 u w).y*p.n.x=w.z*dot p.n u-u.z*dot p.n w:=by simp only[d9,dot];grind
   rw[this,d1,d2];simp
 obtain⟨pn,pb⟩:=p;obtain⟨qn,qb⟩:=q
 rcases ud8 (Jc0 ok) (Jc0 hp) hc with e|e
 ·left
  simp only at e o t1 s1 t2 t3
  subst e;rw[<- t1,s1]
 ·right
  simp only at e o t1 s1 t2 t3
  subst e;rw[<- t1];simp only[dot,neg,Y4] at s1 ⊢;simp only[Pln.mk.injEq,true_and]
  grind
structure vd4(l:List V3)(p:Pln):Prop extends Fac l p.n p.b where
 ok:okp p=true
theorem Jc3{l:List V3}{p:Pln}{u w x:V3}(hu:u∈l)(hw:w∈l)(hx:x∈l)(h:Thr u w x p)(hh:∀v∈l,dot (Y4 p).n v<=(Y4 p).b):vd4 l (Y4 p):=by
 obtain⟨s1,s2,s3⟩:=Jc2 h;exact⟨⟨hh,u,w,x,hu,hw,hx,Wc1 h,(Hb9 p u).2 s1,(Hb9 p w).2 s2,(Hb9 p x).2 s3⟩,Eb1 h.ok⟩
theorem fd8{l:List V3}{p:Pln}{u w x:V3}(hu:u∈l)(hw:w∈l)(hx:x∈l)(h:Thr u w x p)(hh:∀v∈l,dot p.n v<=p.b):vd4 l p:=by
 obtain⟨s1,s2,s3⟩:=Jc2 h;exact⟨⟨hh,u,w,x,hu,hw,hx,Wc1 h,s1,s2,s3⟩,h.ok⟩
theorem oe4{u w x:V3}(h:N3 u w x≠⟨0,0,0⟩):N3 w u x≠⟨0,0,0⟩/\N3 u x w≠⟨0,0,0⟩/\N3 x w u≠⟨0,0,0⟩/\N3 w x u≠⟨0,0,0⟩/\N3 x u w≠⟨0,0,0⟩:=by
 have e1:N3 w u x=neg (N3 u w x):=V3.ext' (by simp only[N3,d9,P9,neg];grind) (by simp only[N3,d9,P9,neg];grind) (by simp only[N3,d9,P9,neg];grind)
 have e2:N3 u x w=neg (N3 u w x):=V3.ext' (by simp only[N3,d9,P9,neg];grind) (by simp only[N3,d9,P9,neg];grind) (by simp only[N3,d9,P9,neg];grind)
 have e3:N3 x w u=neg (N3 u w x):=V3.ext' (by simp only[N3,d9,P9,neg];grind) (by simp only[N3,d9,P9,neg];grind) (by simp only[N3,d9,P9,neg];grind)
 have e4:N3 w x u=N3 u w x:=V3.ext' (by simp only[N3,d9,P9];grind) (by simp only[N3,d9,P9];grind) (by simp only[N3,d9,P9];grind)
 have e5:N3 x u w=N3 u w x:=V3.ext' (by simp only[N3,d9,P9];grind) (by simp only[N3,d9,P9];grind) (by simp only[N3,d9,P9];grind)
 rw[e1,e2,e3,e4,e5];exact⟨fd6 h,fd6 h,fd6 h,h,h⟩
theorem wf7{u w x:V3}(h:N3 u w x≠⟨0,0,0⟩):u≠w/\u≠x/\w≠x:=by
 refine⟨λe=>h ?_,λe=>h ?_,λe=>h ?_⟩<;>subst e<;>refine V3.ext' ?_ ?_ ?_<;>simp only[N3,d9,P9]<;>grind
theorem bf5{l:List V3}{u w x:V3}(hu:u∈l)(hw:w∈l)(hx:x∈l)(h:N3 u w x≠⟨0,0,0⟩) :
  ∃a,a<l.length/\∃c,c<a/\∃k,k<c/\N3 (gL tV l a) (gL tV l c) (gL tV l k)≠⟨0,0,0⟩/\∀f:V3->Prop,f u->f w->f x->f (gL tV l a)/\f (gL tV l c)/\f (gL tV l k):=by
 obtain⟨i,hi,rfl⟩:=Qec.1 hu;obtain⟨j,hj,rfl⟩:=Qec.1 hw;obtain⟨k,hk,rfl⟩:=Qec.1 hx;obtain⟨n1,n2,n3⟩:=wf7 h;obtain⟨s1,s2,s3,s4,s5⟩:=oe4 h;have d1:i≠j:=λe=>n1 (by subst e;rfl)
 have d2:i≠k:=λe=>n2 (by subst e;rfl)
 have d3:j≠k:=λe=>n3 (by subst e;rfl)
 rw[<- La6 tV hi,<- La6 tV hj,<- La6 tV hk] at *
 rcases Qjx d1 with h1|h1<;>rcases Qjx d2 with h2|h2<;>rcases Qjx d3 with h3|h3
 ·exact⟨k,hk,j,h3,i,h1,s3,λf a b c=>⟨c,b,a⟩⟩
 ·exact⟨j,hj,k,h3,i,h2,s4,λf a b c=>⟨b,c,a⟩⟩
 ·omega
 ·exact⟨j,hj,i,h1,k,h2,s1,λf a b c=>⟨b,a,c⟩⟩
 ·exact⟨k,hk,i,h2,j,h1,s5,λf a b c=>⟨c,a,b⟩⟩
 ·omega
 ·exact⟨i,hi,k,h2,j,h3,s2,λf a b c=>⟨a,c,b⟩⟩
 ·exact⟨i,hi,j,h1,k,h3,h,λf a b c=>⟨a,b,c⟩⟩
theorem fd9{l:List V3}(hl:l.all inV=true)(p:Pln):p∈F0 l↔vd4 l p:=by
 have hin:=Qcf.1 hl;constructor
 ·intro hp;obtain⟨a,ha,c,hc,k,hk,h1,h2⟩:=(Fd5 l p).1 hp;have ma:=gLm ha;have mc:=gLm (show c<l.length by omega)
  have mk:=gLm (show k<l.length by omega)
  have ht:=(ba9 h1).2
  rcases h2 with⟨rfl,h3⟩|⟨rfl,h3⟩
  ·exact fd8 ma mc mk ht ((Ea6 ht.ok hl).1 h3)
  ·exact Jc3 ma mc mk ht ((Ea6 (Eb1 ht.ok) hl).1 h3)
 ·intro h;obtain⟨u,w,x,hu,hw,hx,h3,t1,t2,t3⟩:=h.on;obtain⟨a,ha,c,hc,k,hk,hn,hall⟩:=bf5 hu hw hx h3;obtain⟨i1,i2,i3⟩:=hall (λv=>inV v=true) (hin u hu) (hin w hw) (hin x hx)
  obtain⟨e1,e2,e3⟩:=hall (λv=>dot p.n v=p.b) t1 t2 t3
  have h2:=bc0 i1 i2 i3 hn;refine (Fd5 l p).2 ⟨a,ha,c,hc,k,hk,h2,?_⟩;have hh:=(Ea6 h.ok hl).2 h.hd
  rcases vd3 (ba9 h2).2 h.ok e1 e2 e3 with e|e
  ·exact .inl ⟨e,hh⟩
  ·exact .inr ⟨e,hh⟩
theorem Ee3{n:V3}(h:n≠⟨0,0,0⟩):0<dot n n:=by
 have sq:∀a:Int,0<=a*a:=λa=>by
  by_cases h:0<=a
  ·exact Qjb h h
  ·have:=Qjb (show 0<=-a by omega) (show 0<=-a by omega)
   rw[Int.neg_mul_neg] at this;exact this
 have z:∀{a:Int},a*a=0->a=0:=λh=>(Qja.1 h).elim id id
 have s1:=sq n.x;have s2:=sq n.y;have s3:=sq n.z;by_cases h0:0<dot n n
 ·exact h0
 ·exfalso;simp only[dot] at h0;exact h (V3.ext' (z (by omega)) (z (by omega)) (z (by omega)))
theorem Ee4{l:List V3}(hl:l.all inV=true){c:PLq}(hc:∀p,vd4 l p->p∈c):wf6 l c:=λn b hn hf=>by
 have hin:=Qcf.1 hl;obtain⟨u,w,x,hu,hw,hx,h3,t1,t2,t3⟩:=hf.on;have h2:=bc0 (hin u hu) (hin w hw) (hin x hx) h3;have ht:=(ba9 h2).2;generalize (u9 u w x).1=q at ht;obtain⟨s1,s2,s3⟩:=Jc2 ht;have hnn:=Ee3 hn;have d1:dot n (P9 w u)=0:=by simp only[dot,P9] at *;grind
 have d2:dot n (P9 x u)=0:=by simp only[dot,P9] at *;grind
 -- the normals are parallel
 have par:dot n n*q.n.x=dot q.n n*n.x/\dot n n*q.n.y=dot q.n n*n.y/\dot n n*q.n.z=dot q.n n*n.z:=by
  obtain⟨ok,⟨g,hg,e1,e2,e3⟩,o⟩:=ht;have z:∀{x y:Int},g*(x-y)=0->x=y:=λh=>by have:=(Qja.1 h).resolve_left (by omega);omega
  have eg:g*dot q.n n=(d9 (P9 w u) (P9 x u)).x*n.x+(d9 (P9 w u) (P9 x u)).y*n.y+(d9 (P9 w u) (P9 x u)).z*n.z:=by
   have:g*dot q.n n=(g*q.n.x)*n.x+(g*q.n.y)*n.y+(g*q.n.z)*n.z:=by simp only[dot];grind
   rw[this,e1,e2,e3];rfl
  have e1:g*q.n.x=(d9 (P9 w u) (P9 x u)).x:=e1;have e2:g*q.n.y=(d9 (P9 w u) (P9 x u)).y:=e2;have e3:g*q.n.z=(d9 (P9 w u) (P9 x u)).z:=e3;generalize P9 w u=p at *
  generalize P9 x u=r at *
  refine⟨z ?_,z ?_,z ?_⟩
  ·have:g*(dot n n*q.n.x-dot q.n n*n.x)=dot n n*(g*q.n.x)-(g*dot q.n n)*n.x:=by grind
   rw[this,e1,eg]
   have:dot n n*(d9 p r).x-((d9 p r).x*n.x+(d9 p r).y*n.y+(d9 p r).z*n.z)*n.x=(n.y*r.z-n.z*r.y)*dot n p-(n.y*p.z-n.z*p.y)*dot n r:=by simp only[dot,d9];grind
   rw[this,d1,d2];simp
  ·have:g*(dot n n*q.n.y-dot q.n n*n.y)=dot n n*(g*q.n.y)-(g*dot q.n n)*n.y:=by grind
   rw[this,e2,eg]
   have:dot n n*(d9 p r).y-((d9 p r).x*n.x+(d9 p r).y*n.y+(d9 p r).z*n.z)*n.y=(n.z*r.x-n.x*r.z)*dot n p-(n.z*p.x-n.x*p.z)*dot n r:=by simp only[dot,d9];grind
   rw[this,d1,d2];simp
  ·have:g*(dot n n*q.n.z-dot q.n n*n.z)=dot n n*(g*q.n.z)-(g*dot q.n n)*n.z:=by grind
   rw[this,e3,eg]
   have:dot n n*(d9 p r).z-((d9 p r).x*n.x+(d9 p r).y*n.y+(d9 p r).z*n.z)*n.z=(n.x*r.y-n.y*r.x)*dot n p-(n.x*p.y-n.y*p.x)*dot n r:=by simp only[dot,d9];grind
   rw[this,d1,d2];simp
 have fin:∀r:Pln,Thr u w x q->(r=q\/r=Y4 q)->0<dot r.n n->(dot n n*r.n.x=dot r.n n*n.x/\dot n n*r.n.y=dot r.n n*n.y/\dot n n*r.n.z=dot r.n n*n.z)->∃s t:Int,0<s/\0<t/\∃q∈c,t*q.n.x=s*n.x/\t*q.n.y=s*n.y/\t*q.n.z=s*n.z/\t*q.b=s*b:=λr ht hr hp ⟨p1,p2,p3⟩=>by
  have hru:dot r.n u=r.b:=by
   rcases hr with rfl|rfl
   ·exact s1
   ·exact (Hb9 q u).2 s1
  have ed:∀v,dot n n*dot r.n v=dot r.n n*dot n v:=λv=>by
   have:dot n n*dot r.n v=(dot n n*r.n.x)*v.x+(dot n n*r.n.y)*v.y+(dot n n*r.n.z)*v.z:=by
    generalize dot n n=t;simp only[dot];grind
   rw[this,p1,p2,p3];generalize dot r.n n=s;simp only[dot];grind
  have eb:dot n n*r.b=dot r.n n*b:=by rw[<- hru,ed,t1]
  have hd:∀v∈l,dot r.n v<=r.b:=λv hv=>by
   have h1:=Qjv (hf.hd v hv) (Qjc hp);rw[<- ed,<- eb] at h1;exact Int.le_of_mul_le_mul_left h1 hnn
  have hF:vd4 l r:=by
   rcases hr with rfl|rfl
   ·exact fd8 hu hw hx ht hd
   ·exact Jc3 hu hw hx ht hd
  exact⟨dot r.n n,dot n n,hp,hnn,r,hc r hF,p1,p2,p3,eb⟩
 by_cases h0:0<dot q.n n
 ·exact fin q ht (.inl rfl) h0 par
 ·refine fin (Y4 q) ht (.inr rfl) ?_ ?_
  ·rw[ac7]
   have:dot q.n n≠0:=λe=>by
    obtain⟨p1,p2,p3⟩:=par;rw[e] at p1 p2 p3;simp only[Qjm] at p1 p2 p3;have z:∀{x:Int},dot n n*x=0->x=0:=λh=>(Qja.1 h).resolve_left (by omega)
    exact Vc8 ht.ok (V3.ext' (z p1) (z p2) (z p3))
   omega
  ·rw[ac7];obtain⟨p1,p2,p3⟩:=par;show dot n n*-q.n.x=_/\dot n n*-q.n.y=_/\dot n n*-q.n.z=_;rw[Qjq,Qjq,Qjq,p1,p2,p3,Qjae,Qjae,Qjae];exact⟨rfl,rfl,rfl⟩
end Go.Ev.Ce
namespace Go.Ev.Ce
open Go Go.Ev Go.Ev.L Go.Proofs Go.Sort
def eqV(x y:V3):Bool:=x.x==y.x&&(x.y==y.y&&(x.z==y.z&&true))
theorem gd0(x y:V3):eqV x y=true↔x=y:=by
 unfold eqV;simp only[Qia,Qbd,beq_iff_eq];refine⟨λ⟨h1,h2,h3⟩=>V3.ext' h1 h2 h3,λh=>by subst h;exact⟨rfl,rfl,rfl⟩⟩
theorem gd1{l:List V3}{j:Nat}(h:j<l.length):ldR tV (bL tV l) (0+j)=true:=by rw[Qbh];exact Bd7 tV h
theorem Jc4{l:List V3}{j:Nat}(h:j<l.length):rdR tV (bL tV l) (0+j)=gL tV l j:=by rw[Qbh];exact Bd6 tV h
theorem vd5(l:List V3)(n:Nat):A7 (bL tV l) n=bL tV (l.take n):=by unfold bL;rw[A8,k9,k9,List.map_take]
theorem Jc5(l:List V3)(n:Nat):i9 (bL tV l) n=bL tV (l.drop n):=by unfold bL;rw[v7,k9,k9,List.map_drop]
theorem vd6(n:Nat):List.replicate n [i 0,i 0,i 0]=bL tV (List.replicate n ⟨0,0,0⟩):=by unfold bL;rw[k9,List.map_replicate];rfl
def dvF:V3->List V3->List V3
 |_,[]=>[]
 |a,x::l=>if eqV x a then dvF x l else x::dvF x l
def ddV:List V3->List V3
 |[]=>[]
 |x::l=>x::dvF x l
structure oe5(l:List V3)(n:Nat)(cur:List V3)(m j:Nat)(R:List V3):Prop where
 len:cur.length=l.length
 t:cur.take m++dvF (gL tV l (j-1)) ((l.take n).drop j)=R
 d:cur.drop (j-1)=l.drop (j-1)
 le:m+1<=j
theorem Oc7(l:List V3)(n o:Nat)(hn:n<=l.length)(hl:l.length<=1000000000)(ho:o<n)(m:Nat)(cur:List V3)(R:List V3)(hd:oe5 l n cur m (o+1) R) :
  ∃t s,lp (p4 ⟨n,0+o,n-o⟩) ⟨(m:Int),((1:Nat):Int),bL tV cur⟩=(t,s)/\(t=1/\∃m' cur' k,s=⟨((m':Nat):Int),k,bL tV cur'⟩/\cur'.length=l.length/\cur'.take m'=R/\m'<=n):=by
 refine L7 (step:=p4 ⟨n,0+o,n-o⟩) (mk:=λj (x:Nat×List V3)=>(⟨(x.1:Int),(j:Int),bL tV x.2⟩:o7)) (n-o) (λj x=>oe5 l n x.2 x.1 (o+j) R/\1<=j/\x.1<=n) (λt s=>t=1/\∃m' cur' k,s=⟨((m':Nat):Int),k,bL tV cur'⟩/\cur'.length=l.length/\cur'.take m'=R/\m'<=n) (by omega) (λj x hj hx=>?_) (λj x hj hx=>?_) 1 (m,cur) ⟨hd,Qac _,by have:=hd.le;show m<=n;omega⟩
 ·obtain⟨m,cur⟩:=x;obtain⟨⟨h1,h2,h3,h4⟩,hj1,hmn⟩:=hx
  simp only at h1 h2 h3 h4 hmn
  have hoj:o+j<n:=by omega
  have hjc:o+j<cur.length:=by omega
  have hjc':o+(j-1)<cur.length:=by omega
  have hmc:m<cur.length:=by omega
  have hg':gL tV cur (o+(j-1))=gL tV l (o+j-1):=by rw[show o+(j-1)=o+j-1 by omega];exact jc8 tV h3
  have hd1:cur.drop (o+j)=l.drop (o+j):=by have:=Zb9 h3 1;rw[show o+j-1+1=o+j by omega] at this;exact this
  have hg:gL tV cur (o+j)=gL tV l (o+j):=jc8 tV hd1;have hWm:W ((m:Int)+1)=((m+1:Nat):Int):=by rw[E7 (by omega) (by omega)];omega
  have hWj:W ((j:Int)-1)=((j-1:Nat):Int):=by rw[E7 (by omega) (by omega)];omega
  have hb:Nat.blt m cur.length=true:=by rw[Qch];exact hmc
  have hrow:j6 (bL tV cur) m=tV.row (gL tV cur m):=W0 tV hmc;have sp:∀(v:V3) (x1 x2 x3:Int),T8 (tV.row v) 0 [i x1,i x2,i x3]=tV.row ⟨x1,x2,x3⟩:=λ_ _ _ _=>rfl
  have rl:∀v:V3,Nat.ble 3 (len (tV.row v))=true:=λ_=>rfl
  simp only[p4,O3,Int.toNat_natCast,Qbh,hWj,Bd7 tV hjc,Bd7 tV hjc',Bd6 tV hjc,Bd6 tV hjc',n7 hj (show n-o<=4611686018427387904 by omega),hWm,hg,hg',hrow,S7,hb,sp,rl,yb7,g7 (show m<n by omega)]
  rw[btD (k8 hj)];simp only[g7 hj,g7 (show j-1<n-o by omega),l0,Qjg]
  rw[show ((gL tV l (o+j)).x==(gL tV l (o+j-1)).x&&((gL tV l (o+j)).y==(gL tV l (o+j-1)).y&&((gL tV l (o+j)).z==(gL tV l (o+j-1)).z&&true)))=eqV (gL tV l (o+j)) (gL tV l (o+j-1)) from rfl]
  have hcons:(l.take n).drop (o+j)=gL tV l (o+j)::(l.take n).drop (o+(j+1)):=by
   rw[Qid (by rw[Qif];omega),List.getElem_take,La6 tV (by omega)]
   rfl
  rw[hcons] at h2;have hlast:o+(j+1)-1=o+j:=by omega
  unfold dvF at h2;cases he:eqV (gL tV l (o+j)) (gL tV l (o+j-1)) with
  |true =>
   rw[he] at h2;simp only[if_true] at h2;refine .nx ⟨(m,cur),rfl,⟨⟨h1,?_,?_,by show m+1<=o+(j+1);omega⟩,by omega,hmn⟩⟩
   ·rw[hlast];exact h2
   ·rw[hlast];exact hd1
  |false =>
   rw[he] at h2;simp only[Qil,if_false] at h2;refine .nx ⟨(m+1,cur.set m (gL tV l (o+j))),rfl,⟨⟨by rw[Qij];exact h1,?_,?_,by show m+1+1<=o+(j+1);omega⟩,by omega,by show m+1<=n;omega⟩⟩
   ·rw[hlast];show (cur.set m (gL tV l (o+j))).take (m+1)++_=R;rw[Qjr (by rw[Qij];exact hmc),List.getElem_set_self,List.take_set_of_le (Qac _),Qjz]
    exact h2
   ·rw[hlast];show (cur.set m (gL tV l (o+j))).drop (o+j)=_;rw[List.drop_set_of_lt (by omega),hd1]
 ·obtain⟨m,cur⟩:=x;obtain⟨⟨h1,h2,h3,h4⟩,hj1,hmn⟩:=hx
  simp only at h1 h2 h3 h4 hmn
  refine⟨1,?_,rfl,m,cur,_,rfl,h1,?_,hmn⟩
  ·simp only[p4,O3];rw[bfD (by omega)]
  ·rw[Qjaf (by rw[Qif];omega)] at h2
   unfold dvF at h2;rw[Qbad] at h2;exact h2
theorem vd7(l:List V3)(n:Nat)(hn:n<=l.length)(hl:l.length<=1000000000) :
  ∃m r,J0 ⟨n,bL tV l⟩=⟨1,m,bL tV r⟩/\m<=r.length/\r.take m=ddV (l.take n)/\r.length=l.length:=by
 unfold J0 pa1
 simp only
 by_cases h2:(n:Int)<2
 ·rw[btD h2];refine⟨n,l,rfl,hn,?_,rfl⟩
  have:n=0\/n=1:=by omega
  rcases this with rfl|rfl
  ·rfl
  ·cases l with
   |nil=>rfl
   |cons x l=>rfl
 ·rw[bfD h2];have h1n:1<=n:=by omega
  have hI : ∀ j, j < n → 1 ≤ j → l.take j ++ dvF (gL tV l (j - 1)) ((l.take n).drop j) = ddV (l.take n) →
    (eqV (gL tV l j) (gL tV l (j-1))=true->oe5 l n l j (j+1) (ddV (l.take n)))/\(eqV (gL tV l j) (gL tV l (j-1))=false->l.take (j+1)++dvF (gL tV l (j+1-1)) ((l.take n).drop (j+1))=ddV (l.take n)):=by
   intro j hj hj1 hR;have hcons:(l.take n).drop j=gL tV l j::(l.take n).drop (j+1):=by
    rw[Qid (by rw[Qif];omega),List.getElem_take,La6 tV (by omega)]
   rw[hcons] at hR;unfold dvF at hR;constructor
   ·intro he;rw[he] at hR;simp only[if_true] at hR;exact⟨rfl,hR,rfl,Qac _⟩
   ·intro he;rw[he] at hR;simp only[Qil,if_false] at hR;rw[Hb7 tV (show j<l.length by omega),Qjz]
    exact hR
  have inner:∀k,k<n->1<=k->oe5 l n l k (k+1) (ddV (l.take n))->∃m' cur' k',lp (p4 ⟨n,0+k,n-k⟩) ⟨(k:Int),1,bL tV l⟩=(1,⟨((m':Nat):Int),k',bL tV cur'⟩)/\cur'.length=l.length/\cur'.take m'=ddV (l.take n)/\m'<=n:=by
   intro k hk hk1 hc;obtain⟨t,s,e1,rfl,m',cur',k',rfl,e2,e3,e4⟩:=Oc7 l n k hn hl hk k l _ hc;exact⟨m',cur',k',e1,e2,e3,e4⟩
  have key:=L7 (step:=I9 ⟨n,bL tV l⟩) (mk:=λj (_:Unit)=>(⟨(j:Int)⟩:N8)) n (λj _=>1<=j/\j<=n/\l.take j++dvF (gL tV l (j-1)) ((l.take n).drop j)=ddV (l.take n))
   (λt s=>(t=1/\∃k:Nat,s=⟨(k:Int)⟩/\k<n/\1<=k/\oe5 l n l k (k+1) (ddV (l.take n)))\/(t=2/\l.take n=ddV (l.take n))) (by omega) (λj x hj hx=>?_) (λj x hj hx=>?_) 1 () ⟨Qac _,h1n,by
    cases l with
    |nil=>simp only[List.length_nil] at hn;omega
    |cons x l =>
     cases n with
     |zero=>omega
     |succ n=>rfl⟩
  ·obtain⟨t,s,e1,e2⟩:=key;rw[show (⟨1⟩:N8)=⟨((1:Nat):Int)⟩ from rfl,e1]
   rcases e2 with⟨rfl,k,rfl,hk,hk1,hc⟩|⟨rfl,he⟩
   ·obtain⟨m',cur',k',e2,e3,e4,e5⟩:=inner k hk hk1 hc;simp only[Int.toNat_natCast,e2];simp only[Qbh,Nat.sub_zero];refine⟨m',cur'.take m'++(List.replicate (n-m') ⟨0,0,0⟩++cur'.drop (m'+(n-m'))),?_,?_,?_,?_⟩
    ·rw[vd5,vd6,Jc5,xa2,xa2];rfl
    ·rw[Qea,Qif,e3];omega
    ·rw[Qjw (by rw[Qif,e3];omega),List.take_take,Nat.min_self,e4]
    ·rw[Qea,Qea,Qif,Qbt,Qbr,e3];omega
   ·exact⟨n,l,rfl,hn,he,rfl⟩
  ·obtain⟨hj1,hjn,hR⟩:=hx;obtain⟨i1,i2⟩:=hI j hj hj1 hR;have hWj:W ((j:Int)-1)=((j-1:Nat):Int):=by rw[E7 (by omega) (by omega)];omega
   have hjl:j<l.length:=by omega
   have hjl':j-1<l.length:=by omega
   simp only[I9,O4,Int.toNat_natCast,hWj,gd1 hjl,gd1 hjl',Jc4 hjl,Jc4 hjl',n7 hj (show n<=4611686018427387904 by omega)]
   rw[btD (k8 hj),bt (g7 hj),bt (g7 (show j-1<n by omega)),bt (g7 (show j<n+1 by omega))]
   simp only[l0];rw[show ((gL tV l j).x==(gL tV l (j-1)).x&&((gL tV l j).y==(gL tV l (j-1)).y&&((gL tV l j).z==(gL tV l (j-1)).z&&true)))=eqV (gL tV l j) (gL tV l (j-1)) from rfl]
   cases he:eqV (gL tV l j) (gL tV l (j-1)) with
   |false=>exact .nx ⟨(),rfl,by omega,by omega,i2 he⟩
   |true =>
    obtain⟨m',cur',k',e2,e3,e4,e5⟩:=inner j hj hj1 (i1 he);rw[e2];simp only[g7 (show m'<n+1 by omega)]
    exact .ex (.inl ⟨rfl,j,rfl,hj,hj1,i1 he⟩)
  ·obtain⟨hj1,hjn,hR⟩:=hx;refine⟨2,?_,.inr ⟨rfl,?_⟩⟩
   ·simp only[I9,O4];rw[bfD (by omega)]
   ·have:j=n:=by omega
    subst this;rw[Qjaf (by rw[Qif];omega)] at hR
    unfold dvF at hR;rw[Qbad] at hR;exact hR
def oe6(l:List V3):Prop:=l.Pairwise LtV
theorem Ib0{x y z:V3}(h1:LtV x y)(h2:LtV y z):LtV x z:=by unfold LtV at *;omega
theorem bc1(x:V3):¬ LtV x x:=by unfold LtV;omega
theorem Od7(x y:V3):LtV x y\/x=y\/LtV y x:=by
 by_cases h1:LtV x y
 ·exact .inl h1
 ·by_cases h2:LtV y x
  ·exact .inr (.inr h2)
  ·refine .inr (.inl ?_);unfold LtV at h1 h2;exact V3.ext' (by omega) (by omega) (by omega)
theorem Fd9(l:List V3):List.Perm (ub3 l) l:=List.mergeSort_perm l _
theorem Yd5(x y z:V3)(h1:(!ltOf ib3 y x)=true)(h2:(!ltOf ib3 z y)=true):(!ltOf ib3 z x)=true:=by
 rw[za4] at *
 simp only[Qdb,decide_eq_false_iff_not] at *
 unfold LtV at *
 omega
theorem Yd6(x y:V3):((!ltOf ib3 y x)||(!ltOf ib3 x y))=true:=by
 rw[za4,za4];by_cases h:LtV y x
 ·have h2:¬ LtV x y:=λh2=>bc1 x (Ib0 h2 h)
  simp[h2]
 ·simp[h]
theorem gd2(l:List V3):(ub3 l).Pairwise λx y=>(!ltOf ib3 y x)=true:=Qjac Yd5 Yd6 l
theorem Od8(p:V3):∀(a:V3) (l:List V3),p∈a::dvF a l↔p∈a::l
 |a,[]=>by simp[dvF]
 |a,x::l=>by
  have ih:=Od8 p x l;unfold dvF;split
  ·rename_i h;rw[gd0] at h;subst h;rw[ih];simp
  ·simp only[Qbp] at ih ⊢;rw[ih]
theorem bf6(p:V3):∀l:List V3,p∈ddV l↔p∈l
 |[]=>Iff.rfl
 |x::l=>Od8 p x l
theorem Od9:∀(a:V3) (l:List V3),(a::l).Pairwise (λx y=>(!ltOf ib3 y x)=true)->oe6 (a::dvF a l)
 |a,[],_=>Qjad _ _
 |a,x::l,h=>by
  obtain⟨h1,h2⟩:=Qje.1 h;have ih:=Od9 x l h2;have hle:=h1 x Qck;rw[za4] at hle;have hle:¬ LtV x a:=by simpa using hle
  unfold dvF;split
  ·rename_i he;rw[gd0] at he;subst he;exact ih
  ·rename_i hne;have hlt:LtV a x:=by
    rcases Od7 a x with h|h|h
    ·exact h
    ·exact absurd ((gd0 _ _).2 h.symm) hne
    ·exact absurd h hle
   refine Qje.2 ⟨λp hp=>?_,ih⟩
   rcases Qbp.1 hp with e|hp'
   ·subst e;exact hlt
   ·exact Ib0 hlt ((Qje.1 ih).1 p hp')
theorem oe7(l:List V3):oe6 (ddV (ub3 l)):=by
 have h:=gd2 l;cases hs:ub3 l with
 |nil=>exact .nil
 |cons a l'=>rw[hs] at h;exact Od9 a l' h
def dis(l:List V3):List V3:=ddV (ub3 l)
theorem bc2(l:List V3)(v:V3):v∈dis l↔v∈l:=by unfold dis;rw[bf6,(Fd9 l).mem_iff]
theorem Yd7(l:List V3):(dis l).Nodup:=List.Pairwise.imp (λ{x y} (h:LtV x y) (e:x=y)=>bc1 y (e ▸ h)) (oe7 l)
theorem Pd0(l:List V3):(dis l).length<=l.length:=by
 have:=List.Nodup.length_le_of_subset (Yd7 l) (λv hv=>(bc2 l v).1 hv)
 exact this
theorem Wc2(l:List V3)(n:Nat)(hn:n<=l.length):slR tV (bL tV l) 0 n=l.take n:=zc7 tV (by rw[Qif];omega) λk hk=>by
 rw[Qbh,W0 tV (by omega)]
 congr 1;simp[gL,Qda,Qbe,hk]
theorem kc2(l:List V3)(n:Nat)(hn:n<=l.length):okS tV (bL tV l) 0 n=true:=Na4 tV (f:=λk=>gL tV l k) λk hk=>by rw[Qbh,W0 tV (by omega)]
theorem Wc3(a:V3)(l:List V3)(hl:l.length<=1000000):Y3 (a,l)=⟨1,(a::l).length,bL tV (a::l)⟩:=by
 have ec:l9 (λk=>tV.row (gL tV (a::l) k)) (List.range (l.length+1))=bL tV (a::l):=kb1 tV (a::l)
 unfold Y3 ya2;simp only[ec,S7];have r:Nat.ble ((0+(a::l).length)*24) room=true:=by rw[Nat.ble_eq];unfold room;simp only[List.length_cons];omega
 rw[r,Qbh];rfl
theorem bc3(a:V3)(l:List V3)(hl:l.length<=1000000):∃m r,J0 ⟨(a::l).length,app (bL tV (ub3 (slR tV (bL tV (a::l)) 0 (a::l).length))) (i9 (bL tV (a::l)) (a::l).length)⟩=⟨1,m,bL tV r⟩/\m<=r.length/\r.take m=dis (a::l)/\r.length=l.length+1:=by
 have hs:(ub3 (a::l)).length=(a::l).length:=Uc8 _;rw[Va3,Jc5,xa2];obtain⟨m,r,k1,k2,k3,k4⟩:=vd7 (ub3 (a::l)++(a::l).drop (a::l).length) (a::l).length (by rw[Qea,hs];omega) (by rw[Qea,hs,Qbr];simp only[List.length_cons];omega)
 refine⟨m,r,k1,k2,?_,by rw[k4,Qea,hs,Qbr];simp only[List.length_cons];omega⟩
 rw[k3,Qjw (by rw[hs];omega),List.take_of_length_le (by rw[hs];omega)]
 rfl
theorem vd8(l:List V3)(hl:l.length<=2000000)(r:List V3):(Bool.and (Nat.ble l.length room) (Bool.and (Nat.ble l.length (len (bL tV (l++r)))) (okS tV (bL tV (l++r)) 0 l.length)))=true:=by
 rw[kc2 _ _ (by rw[Qea];omega),S7,Qbd,Qbd,Nat.ble_eq,Nat.ble_eq]
 refine⟨by unfold room;omega,by rw[Qea];omega,rfl⟩
theorem oc1(a:V3)(l:List V3)(hl:l.length<=1000000):Rd (one (r1L tV)) (ja0 (a,l)) (λr=>r=dis (a::l)):=by
 obtain⟨m,r,k1,k2,k3,_⟩:=bc3 a l hl;have hok:okL tV (l.length+1) (λk=>tV.row (gL tV (a::l) k))=true:=Na4 tV (f:=λk=>gL tV (a::l) k) λ_ _=>rfl
 have hr:=vd8 (a::l) (by simp only[List.length_cons];omega) []
 rw[Qbad] at hr;unfold ja0;simp only[Jd7,Jd8,Wc3 a l hl,hok,k1,l0,Qib,hr];refine⟨_,r.take m,rfl,?_,k3⟩;show Bool.rec (motive:=λ_=>Option (List V3)) none (some (slR tV (bL tV r) 0 m)) (Bool.and true (okS tV (bL tV r) 0 m))=_
 rw[Wc2 r m k2,kc2 r m k2];rfl
theorem Gd0(a:V3)(l:List V3)(hl:l.length<=1000000):Pa3 (a,l)=dis (a::l):=(oc1 a l hl).p
theorem Gd1(a:V3)(l:List V3)(hl:l.length<=1000000):Pa4 (a,l)=true:=(oc1 a l hl).g
end Go.Ev.Ce
namespace Go.Ev.Ce
open Go Go.Ev Go.Ev.L Go.Proofs
theorem vd9(p:Pln)(v:V3):Da4 p v=some (i (Y9 p v),[]):=by
 unfold Da4 Y9;simp only[Md7,Md8,(jc7 v).1,(jc7 v).2,Md0,Md1,l0];cases hp:okp p with
 |false=>rfl
 |true =>
  cases hv:inV v with
  |false=>rfl
  |true =>
   have hb:=Ya9 hp;have hd:=fd7 hb hv;have e:M4 p.n v=dot p.n v:=by
    unfold M4;simp only[ib2,Cb4];exact Aa1 (hd.mono (by omega))
   rw[e];simp only[Bool.not_true,Va2,Qjg,if_true,Aa0];by_cases h1:dot p.n v<p.b
   ·rw[if_pos h1,if_pos (by omega)]
   ·rw[if_neg h1];by_cases h2:dot p.n v>p.b
    ·rw[if_pos h2,if_neg (by omega),if_pos (by omega)]
    ·rw[if_neg h2,if_neg (by omega),if_neg (by omega)]
theorem vc9(p:Pln)(v:V3):ha3 p v=Y9 p v:=by unfold ha3;rw[vd9];rfl
theorem wc0(p:Pln)(v:V3):ha4 p v=true:=by unfold ha4;rw[vd9];rfl
theorem Ee5{v:V3}(h1:Sm 1000000000000000000 v.x)(h2:Sm 1000000000000000000 v.y)(h3:Sm 1000000000000000000 v.z):S9 [v.x,v.y,v.z]=g3 v/\T0 [v.x,v.y,v.z]=true:=by
 have hd:=Hc7 [v.x,v.y,v.z] (by simp) (by
  intro x hx;simp only[Qbp,Qjs,or_false] at hx
  rcases hx with rfl|rfl|rfl<;>assumption)
 have hg:([v.x,v.y,v.z].foldl (λg x=>Nat.gcd g x.natAbs) 0:Nat)=Nat.gcd (Nat.gcd v.x.natAbs v.y.natAbs) v.z.natAbs:=by
  simp only[List.foldl_cons,List.foldl_nil,Nat.gcd_zero_left]
 exact⟨by unfold S9;rw[hd,hg];rfl,by unfold T0;rw[hd];rfl⟩
theorem oe8{v:V3}(h1:Sm 1000000000000000000 v.x)(h2:Sm 1000000000000000000 v.y)(h3:Sm 1000000000000000000 v.z) :
  Da3 v=if g3 v=0 then some (.tup [.agg (tV.row ⟨0,0,0⟩),i 0],[]) else some (.tup [.agg (tV.row ⟨W (Int.tdiv v.x (g3 v)),W (Int.tdiv v.y (g3 v)),W (Int.tdiv v.z (g3 v))⟩),i (g3 v)],[]):=by
 obtain⟨e1,e2⟩:=Ee5 h1 h2 h3;unfold Da3;simp only[e1,e2,l0];by_cases h:g3 v=0
 ·rw[if_pos h,bt (by simpa using h)];rfl
 ·rw[if_neg h,bf (by simpa using h),bf (by simpa using h),bf (by simpa using h),bf (by simpa using h)];rfl
theorem oc2(a c d:V3):ia8 a c d=some (.tup [.agg (tP.row (u9 a c d).1),b (u9 a c d).2],[]):=by
 unfold ia8 u9;simp only[(jc7 _).1,(jc7 _).2];cases ha:inV a with
 |false=>rfl
 |true =>
  cases hc:inV c with
  |false=>rfl
  |true =>
   cases hd:inV d with
   |false=>rfl
   |true =>
    obtain⟨e,k1,k2,k3⟩:=jb3 ha hc hd;have e':V1 (na9 c a) (na9 d a)=d9 (sub c a) (sub d a):=e;rw[e'];generalize d9 (sub c a) (sub d a)=n at *
    have m1:=k1.mono (m:=1000000000000000000) (by omega)
    have m2:=k2.mono (m:=1000000000000000000) (by omega)
    have m3:=k3.mono (m:=1000000000000000000) (by omega)
    have hpr:=oe8 m1 m2 m3;have gp:Ra8 n=true:=by unfold Ra8;rw[hpr];split<;>rfl
    by_cases h0:g3 n=0
    ·have pp:qa9 n=(⟨0,0,0⟩,0):=by unfold qa9;rw[hpr,if_pos h0];rfl
     have hz:M4 ⟨0,0,0⟩ a=0:=by unfold M4;simp only[Qjm];rfl
     simp only[gp,pp,hz,Qjg,if_true,h0];rfl
    ·have hp:=Hb6 n;have q1:=I4 (g:=g3 n) k1 (by omega)
     have q2:=I4 (g:=g3 n) k2 (by omega)
     have q3:=I4 (g:=g3 n) k3 (by omega)
     rw[Aa1 (q1.mono (by omega)),Aa1 (q2.mono (by omega)),Aa1 (q3.mono (by omega))] at hpr
     have pp:qa9 n=(⟨Int.tdiv n.x (g3 n),Int.tdiv n.y (g3 n),Int.tdiv n.z (g3 n)⟩,g3 n):=by unfold qa9;rw[hpr,if_neg h0];rfl
     have hdot:M4 ⟨Int.tdiv n.x (g3 n),Int.tdiv n.y (g3 n),Int.tdiv n.z (g3 n)⟩ a=dot ⟨Int.tdiv n.x (g3 n),Int.tdiv n.y (g3 n),Int.tdiv n.z (g3 n)⟩ a:=by
      unfold M4;simp only[ib2,Cb4];obtain⟨⟨a1,a2⟩,⟨a3,a4⟩,a5,a6⟩:=(eb3 a).1 ha;have r1:=mb q1.1 q1.2 a1 a2;have r2:=mb q2.1 q2.2 a3 a4;have r3:=mb q3.1 q3.2 a5 a6;rw[E7 (by omega) (by omega)]
      rfl
     simp only[gp,pp,hdot,Qjg,if_true,h0,if_false,show g3 n>0 from by omega,decide_true]
     rfl
theorem rb9(a b c:V3):D6 a b c=u9 a b c:=by unfold D6;rw[oc2];rfl
theorem Rb9(a b c:V3):aa5 a b c=true:=by unfold aa5;rw[oc2];rfl
theorem oe9(v:V3)(p:Pln):Ja4 ⟨v.x,v.y,v.z,p.n.x,p.n.y,p.n.z,p.b⟩=⟨1,Y9 p v != 0⟩:=by
 unfold Ja4 hb5;simp only[vc9,wc0,l0]
theorem Ee6(l:List V3)(p:Pln)(hl:l.length<=1000000000):R2 ⟨l,p.n.x,p.n.y,p.n.z,p.b⟩=⟨1,if l.any (λv=>Y9 p v != 0) then ((l.findIdx (λv=>Y9 p v != 0):Nat):Int) else -1⟩:=by
 have h:=Ja5 (step:=C5 ⟨l,(l.length:Int),p.n.x,p.n.y,p.n.z,p.b⟩) (mk:=λj=>(⟨(j:Int)⟩:U2)) (c:=λv=>Y9 p v != 0) (u:=1) (fin:=2) tV l hl
  (λj hj=>by
   simp only[C5,J3,Int.toNat_natCast,oe9,n7 hj (by omega)]
   rw[bt (Cb5 hj),bt (g7 hj)]
   rfl)
  (by simp only[C5,J3];rw[bf (db1 (Qed _))]) 0 (Qee _)
 rw[Qic] at h;unfold R2 ea5;simp only[j9,i8];rw[show (⟨0⟩:U2)=⟨((0:Nat):Int)⟩ from rfl,h]
 split
 ·simp only[Qbh];rfl
 ·rfl
theorem Pd1(l:List V3)(p:Pln)(hl:l.length<=1000000000):o8 ⟨l,p.n.x,p.n.y,p.n.z,p.b⟩=⟨1,l.any λv=>Y9 p v != 0⟩:=by
 unfold o8 X6;simp only[j9,i8,Ee6 l p hl];split
 ·rename_i h;rw[h,show decide (((l.findIdx (λv=>Y9 p v != 0):Nat):Int)>=0)=true from decide_eq_true (by omega)];rfl
 ·rename_i h;rw[Qjt] at h;rw[h];rfl
theorem Ee7(v:V3)(p:Pln):wa3 ⟨v.x,v.y,v.z,p.n.x,p.n.y,p.n.z,p.b⟩=⟨1,decide (Y9 p v>0)⟩:=by
 unfold wa3 Oa9;simp only[vc9,wc0,l0]
theorem Ee8(l:List V3)(p:Pln)(hl:l.length<=1000000000):R3 ⟨l,p.n.x,p.n.y,p.n.z,p.b⟩=⟨1,if l.any (λv=>decide (Y9 p v>0)) then ((l.findIdx (λv=>decide (Y9 p v>0)):Nat):Int) else -1⟩:=by
 have h:=Ja5 (step:=C6 ⟨l,(l.length:Int),p.n.x,p.n.y,p.n.z,p.b⟩) (mk:=λj=>(⟨(j:Int)⟩:U2)) (c:=λv=>decide (Y9 p v>0)) (u:=1) (fin:=2) tV l hl
  (λj hj=>by
   simp only[C6,J4,Int.toNat_natCast,Ee7,n7 hj (by omega)]
   rw[bt (Cb5 hj),bt (g7 hj)]
   rfl)
  (by simp only[C6,J4];rw[bf (db1 (Qed _))]) 0 (Qee _)
 rw[Qic] at h;unfold R3 fa0;simp only[j9,i8];rw[show (⟨0⟩:U2)=⟨((0:Nat):Int)⟩ from rfl,h]
 split
 ·simp only[Qbh];rfl
 ·rfl
theorem Ee9(l:List V3)(p:Pln)(hl:l.length<=1000000000):L3 ⟨l,p.n.x,p.n.y,p.n.z,p.b⟩=⟨1,l.any λv=>decide (Y9 p v>0)⟩:=by
 unfold L3 X9;simp only[j9,i8,Ee8 l p hl];split
 ·rename_i h;rw[h,show decide (((l.findIdx (λv=>decide (Y9 p v>0)):Nat):Int)>=0)=true from decide_eq_true (by omega)];rfl
 ·rename_i h;rw[Qjt] at h;rw[h];rfl
def bey(l:List V3)(p:Pln):Bool:=l.any λv=>decide (Y9 p v>0)
theorem Wc4(l:List V3)(p:Pln)(hl:l.length<=1000000000):ua1 l p=some (b (bey l p),[]):=by
 unfold ua1;simp only[j9,i8,Ee9 l p hl];rfl
theorem pe0(l:List V3)(p:Pln)(hl:l.length<=1000000000):V8 l p=bey l p:=by unfold V8;rw[Wc4 l p hl];rfl
theorem pe1(l:List V3)(p:Pln)(hl:l.length<=1000000000):V9 l p=true:=by unfold V9;rw[Wc4 l p hl];rfl
theorem Wc5{α:Type}(t:Ty α)(l:List α){j k:Nat}(h:k<j):gL t (l.take j) k=gL t l k:=by
 simp[gL,Qda,Qbe,h]
theorem pe2(l:List V3)(i j:Nat)(hi:i<l.length)(hj:j<i)(hl:l.length<=1000000) :
  lp (L2 ⟨(i:Int),(j:Int),(l.length:Int),(i:Int),(i:Int),(j:Int),(j:Int),l,l⟩) ⟨0⟩ =
   if (l.take j).any (λv=>(u9 v (gL tV l j) (gL tV l i)).2) then (1,⟨((l.take j).findIdx (λv=>(u9 v (gL tV l j) (gL tV l i)).2):Nat)⟩) else (2,⟨(j:Int)⟩):=by
 have hlen:(l.take j).length=j:=by rw[Qif];omega
 have h:=Ja5 (step:=L2 ⟨(i:Int),(j:Int),(l.length:Int),(i:Int),(i:Int),(j:Int),(j:Int),l,l⟩) (mk:=λk=>(⟨(k:Int)⟩:D7)) (c:=λv=>(u9 v (gL tV l j) (gL tV l i)).2) (u:=1) (fin:=2) tV (l.take j) (by omega)
  (λk hk=>by
   rw[hlen] at hk;simp only[L2,wa0,Int.toNat_natCast,rb9,Rb9,Wc5 tV l hk,j9,i8,Pd1 l _ (show l.length<=1000000000 by omega),n7 hk (by omega)]
   rw[btD (k8 hk),bt (g7 (by omega)),bt (g7 (by omega)),bt (g7 hi),l0]
   cases (u9 (gL tV l k) (gL tV l j) (gL tV l i)).2<;>rfl)
  (by rw[hlen];simp only[L2,wa0];rw[bfD (n9 (Qed _))]) 0 (Qee _)
 rw[Qic,hlen] at h;rw[show (⟨0⟩:D7)=⟨((0:Nat):Int)⟩ from rfl,h]
 split
 ·simp only[Qbh]
 ·rfl
def ixs(n:Nat):List Int:=(List.range n).map λk:Nat=>(k:Int)
theorem Ta3(n:Nat):(ixs n).length=n:=by simp[ixs]
theorem Pd2{n k:Nat}(h:k<n):gL tI (ixs n) k=(k:Int):=by
 simp[gL,ixs,Qda,Qbm,List.getElem?_range h]
def sp2(l:List V3)(i:Nat)(m:Int):Bool:=(l.take m.toNat).any λv=>(u9 v (gL tV l m.toNat) (gL tV l i)).2
theorem pe3(l:List V3)(i:Nat)(hi:i<l.length)(hl:l.length<=1000000) :
  lp (P5 ⟨(i:Int),(l.length:Int),(i:Int),(i:Int)⟩) ⟨0,l,l⟩=if (ixs i).any (sp2 l i) then (1,⟨((ixs i).findIdx (sp2 l i):Nat),l,l⟩) else (2,⟨(i:Int),l,l⟩):=by
 have h:=Ja5 (step:=P5 ⟨(i:Int),(l.length:Int),(i:Int),(i:Int)⟩) (mk:=λj=>(⟨(j:Int),l,l⟩:H4)) (c:=sp2 l i) (u:=1) (fin:=2) tI (ixs i) (by rw[Ta3];omega)
  (λj hj=>by
   rw[Ta3] at hj;simp only[P5,wa1,Int.toNat_natCast,Nat.sub_zero,j9,i8,pe2 l i j hi hj hl,n7 hj (by omega),Pd2 hj]
   rw[btD (k8 hj),bt (g7 (by omega))]
   unfold sp2;simp only[Int.toNat_natCast];cases ((l.take j).any λv=>(u9 v (gL tV l j) (gL tV l i)).2)<;>rfl)
  (by rw[Ta3];simp only[P5,wa1];rw[bfD (n9 (Qed _))]) 0 (Qee _)
 rw[Qic,Ta3] at h;rw[show (⟨0,l,l⟩:H4)=⟨((0:Nat):Int),l,l⟩ from rfl,h]
 split
 ·simp only[Qbh]
 ·rfl
def sp1(l:List V3)(m:Int):Bool:=(ixs m.toNat).any (sp2 l m.toNat)
theorem bf7(l:List V3)(hl:l.length<=1000000) :
  lp (ea7 ⟨(l.length:Int)⟩) ⟨0,l,l⟩=if (ixs l.length).any (sp1 l) then (1,⟨((ixs l.length).findIdx (sp1 l):Nat),l,l⟩) else (2,⟨(l.length:Int),l,l⟩):=by
 have h:=Ja5 (step:=ea7 ⟨(l.length:Int)⟩) (mk:=λj=>(⟨(j:Int),l,l⟩:O2)) (c:=sp1 l) (u:=1) (fin:=2) tI (ixs l.length) (by rw[Ta3];omega)
  (λi hi=>by
   rw[Ta3] at hi;simp only[ea7,wa2,Int.toNat_natCast,Nat.sub_zero,j9,i8,pe3 l i hi hl,n7 hi (by omega),Pd2 hi]
   rw[btD (k8 hi),bt (g7 (by omega))]
   unfold sp1;simp only[Int.toNat_natCast];cases (ixs i).any (sp2 l i)<;>rfl)
  (by rw[Ta3];simp only[ea7,wa2];rw[bfD (n9 (Qed _))]) 0 (Qee _)
 rw[Qic,Ta3] at h;rw[show (⟨0,l,l⟩:O2)=⟨((0:Nat):Int),l,l⟩ from rfl,h]
 split
 ·simp only[Qbh]
 ·rfl
theorem gd3{α:Type}{l:List α}{c:α->Bool}(h:l.any c=true):l.findIdx c<l.length:=by
 obtain⟨x,h1,h2⟩:=Qjd.1 h;exact List.findIdx_lt_length_of_exists ⟨x,h1,h2⟩
theorem Ib1{n:Nat}{c:Int->Bool}(h:(ixs n).any c=true):(ixs n).findIdx c<n/\c ((ixs n).findIdx c:Nat)=true:=by
 have hlt:=gd3 h;have h1:=List.findIdx_getElem (xs:=ixs n) (p:=c) (w:=hlt);rw[Ta3] at hlt;refine⟨hlt,?_⟩;simpa [ixs] using h1
def iF(l:List V3):Nat:=(ixs l.length).findIdx (sp1 l)
def jF(l:List V3):Nat:=(ixs (iF l)).findIdx (sp2 l (iF l))
def kF(l:List V3):Nat:=(l.take (jF l)).findIdx (λv=>(u9 v (gL tV l (jF l)) (gL tV l (iF l))).2)
def plF(l:List V3):Pln:=(u9 (gL tV l (kF l)) (gL tV l (jF l)) (gL tV l (iF l))).1
def Nb4(l:List V3):Bool:=if (ixs l.length).any (sp1 l) then !(l.any λv=>Y9 (plF l) v != 0) else true
theorem wd0(l:List V3)(hl:l.length<=1000000):La5 l=some (b (Nb4 l),[]):=by
 unfold La5 Nb4;simp only[j9,i8];rw[bf7 l hl];by_cases h:(ixs l.length).any (sp1 l)=true
 ·obtain⟨hi,h1⟩:=Ib1 h;have h1:(ixs (iF l)).any (sp2 l (iF l))=true:=h1;obtain⟨hj,h2⟩:=Ib1 h1;have h2:(l.take (jF l)).any (λv=>(u9 v (gL tV l (jF l)) (gL tV l (iF l))).2)=true:=h2
  rw[if_pos h,if_pos h];simp only[Int.toNat_natCast,Nat.sub_zero];rw[show (ixs l.length).findIdx (sp1 l)=iF l from rfl,pe3 l (iF l) hi hl,if_pos h1]
  simp only[Int.toNat_natCast,Nat.sub_zero];rw[show (ixs (iF l)).findIdx (sp2 l (iF l))=jF l from rfl,pe2 l (iF l) (jF l) hi hj hl,if_pos h2]
  simp only[Int.toNat_natCast,rb9];rw[show (l.take (jF l)).findIdx (λv=>(u9 v (gL tV l (jF l)) (gL tV l (iF l))).2)=kF l from rfl,show (u9 (gL tV l (kF l)) (gL tV l (jF l)) (gL tV l (iF l))).1=plF l from rfl,Pd1 l _ (by omega)]
  rfl
 ·rw[if_neg h,if_neg h];rfl
theorem Fe0(l:List V3)(hl:l.length<=1000000):cb8 l=Nb4 l:=by unfold cb8;rw[wd0 l hl];rfl
theorem Fe1(l:List V3)(hl:l.length<=1000000):cb9 l=true:=by unfold cb9;rw[wd0 l hl];rfl
theorem Wc6(v:V3):oa4 v=some (b (!inV v),[]):=by
 unfold oa4;simp only[(jc7 v).1,(jc7 v).2,l0]
theorem pe4(v:V3):Da5 v=!inV v:=by unfold Da5;rw[Wc6];rfl
theorem pe5(v:V3):Da6 v=true:=by unfold Da6;rw[Wc6];rfl
theorem Fe2(l:List V3)(hl:l.length<=1000000000):R4 ⟨l⟩=⟨1,if l.any (λv=>!inV v) then ((l.findIdx (λv=>!inV v):Nat):Int) else -1⟩:=by
 have h:=Ja5 (step:=C7 ⟨l,(l.length:Int)⟩) (mk:=λj=>(⟨(j:Int)⟩:U2)) (c:=λv=>!inV v) (u:=1) (fin:=2) tV l hl
  (λj hj=>by
   simp only[C7,J5,Int.toNat_natCast,pe4,pe5,n7 hj (by omega)]
   rw[bt (Cb5 hj),bt (g7 hj),l0])
  (by simp only[C7,J5];rw[bf (db1 (Qed _))]) 0 (Qee _)
 rw[Qic] at h;unfold R4 fa3;simp only[j9,i8];rw[show (⟨0⟩:U2)=⟨((0:Nat):Int)⟩ from rfl,h]
 split
 ·simp only[Qbh];rfl
 ·rfl
theorem Fe3(l:List V3)(hl:l.length<=1000000000):L4 ⟨l⟩=⟨1,l.any λv=>!inV v⟩:=by
 unfold L4 Y2;simp only[j9,i8,Fe2 l hl];split
 ·rename_i h;rw[h,show decide (((l.findIdx (λv=>!inV v):Nat):Int)>=0)=true from decide_eq_true (by omega)];rfl
 ·rename_i h;rw[Qjt] at h;rw[h];rfl
def Ma3(l:List V3):Int:=if (l.length:Int)>48 then 2 else if l.any (λv=>!inV v) then 3 else if Nb4 l then 11 else 0
theorem Wc7(l:List V3)(hl:l.length<=1000000):Da7 l=some (i (Ma3 l),[]):=by
 unfold Da7 Ma3;simp only[j9,i8,O7,Fe3 l (by omega),Fe0 l hl,Fe1 l hl]
 by_cases h:(l.length:Int)>48
 ·rw[btD h,if_pos h]
 ·rw[bfD h,if_neg h];cases l.any λv=>!inV v with
  |true=>rfl
  |false=>cases Nb4 l<;>rfl
theorem bc4(l:List V3)(hl:l.length<=1000000):ra0 l=Ma3 l:=by unfold ra0;rw[Wc7 l hl];rfl
theorem bc5(l:List V3)(hl:l.length<=1000000):ra1 l=true:=by unfold ra1;rw[Wc7 l hl];rfl
theorem pe6{p:Pln}(h:Bd p):qa8 p=Y4 p:=by
 unfold qa8 na9 Y4
 simp only
 have:=h.x1;have:=h.x2;have:=h.y1;have:=h.y2;have:=h.z1;have:=h.z2;have:=h.b1;have:=h.b2
 rw[E7 (by omega) (by omega),E7 (by omega) (by omega),E7 (by omega) (by omega),E7 (by omega) (by omega)]
 simp only[Int.zero_sub]
def gd4(p:Pln):List b9:=[i p.n.x,i p.n.y,i p.n.z,i p.b,b true]
def eb5(l:PLq):List (List b9):=l.map gd4
theorem Wc8(x q:Pln):Ib6 flK [i x.n.x,i x.n.y,i x.n.z,i x.b] (gd4 q)=eqP q x:=by
 show Bool.and (decide (x.n.x=q.n.x)) (Bool.and (decide (x.n.y=q.n.y)) (Bool.and (decide (x.n.z=q.n.z)) (Bool.and (decide (x.b=q.b)) true)))=_;unfold eqP;have h:∀a c:Int,decide (a=c)=(c==a):=λa c=>by rw[Bool.eq_iff_iff,decide_eq_true_eq,beq_iff_eq];exact eq_comm
 rw[h,h,h,h]
theorem wd1(x:Pln):∀l,jb5 4 [(0,.int .i64),(1,.int .i64),(2,.int .i64),(3,.int .i64)] [i x.n.x,i x.n.y,i x.n.z,i x.b] (eb5 l)=ac6 l x
 |[]=>rfl
 |q::l=>by
  have ih:=wd1 x l;unfold jb5 at ih ⊢;show Option.rec (motive:=λ_=>Bool) false (λr=>toB (hdA (i9 r 4))) (Bool.rec (motive:=λ_=>Option (List b9)) (kc8 flK [i x.n.x,i x.n.y,i x.n.z,i x.b] (eb5 l)) (some (gd4 q)) (Ib6 flK [i x.n.x,i x.n.y,i x.n.z,i x.b] (gd4 q)))=ac6 (q::l) x
  rw[Wc8];unfold ac6 at ih ⊢;rw[List.any_cons];cases eqP q x with
  |true=>rfl
  |false=>exact ih
theorem Gd2(x:Pln):∀l,ac6 l x=false->Ma8 [(0,.int .i64),(1,.int .i64),(2,.int .i64),(3,.int .i64)] [i x.n.x,i x.n.y,i x.n.z,i x.b] [i x.n.x,i x.n.y,i x.n.z,i x.b,b true] (eb5 l)=eb5 (l++[x])
 |[],_=>rfl
 |q::l,h=>by
  unfold ac6 at h;rw[List.any_cons,Bool.or_eq_false_iff] at h;show Bool.rec (motive:=λ_=>List (List b9)) (gd4 q::Ma8 flK [i x.n.x,i x.n.y,i x.n.z,i x.b] (gd4 x) (eb5 l)) (gd4 x::eb5 l) (Ib6 flK [i x.n.x,i x.n.y,i x.n.z,i x.b] (gd4 q))=_
  rw[Wc8,h.1,show Ma8 flK [i x.n.x,i x.n.y,i x.n.z,i x.b] (gd4 x) (eb5 l)=_ from Gd2 x l h.2]
  rfl
def Sb0(s:PLq)(p:Pln):PLq:=if ac6 s p then s else s++[p]
theorem pe7(s:PLq)(p q:Pln):q∈Sb0 s p↔q∈s\/q=p:=by
 unfold Sb0;split
 ·rename_i h;rw[ud7] at h;exact⟨.inl,λh'=>h'.elim id λe=>e ▸ h⟩
 ·rw[Qii,List.mem_singleton]
theorem Jc6{s:PLq}{p:Pln}(h:s.Nodup):(Sb0 s p).Nodup:=by
 unfold Sb0;split
 ·exact h
 ·rename_i hn;rw[ud7] at hn;rw[List.nodup_append];exact⟨h,by simp,λa ha b hb=>by rw[List.mem_singleton.1 hb];intro e;exact hn (e ▸ ha)⟩
theorem wd2(s:PLq)(p:Pln):(Sb0 s p).length<=s.length+1:=by
 unfold Sb0;split
 ·omega
 ·simp
def fil(l:List V3)(s:PLq):PLq:=s.filter λp=>!bey l p
theorem wc1(l:List V3)(s:PLq)(p:Pln):fil l (s++[p])=if bey l p then fil l s else fil l s++[p]:=by
 unfold fil;rw[List.filter_append,List.filter_cons,List.filter_nil];cases bey l p<;>simp
theorem gd5(l:List V3)(s:PLq):(fil l s).length<=s.length:=List.length_filter_le _ _
def Nb5(l:List V3)(a c:Nat)(s:PLq)(k:Nat):PLq :=
 if (u9 (gL tV l k) (gL tV l c) (gL tV l a)).2 then Sb0 (Sb0 s (u9 (gL tV l k) (gL tV l c) (gL tV l a)).1) (Y4 (u9 (gL tV l k) (gL tV l c) (gL tV l a)).1) else s
def G2(l:List V3)(a:Nat)(s:PLq)(c:Nat):PLq:=(List.range c).foldl (Nb5 l a c) s
def G1(l:List V3)(s:PLq)(a:Nat):PLq:=(List.range a).foldl (G2 l a) s
def G0(l:List V3):PLq:=(List.range l.length).foldl (G1 l) []
theorem Wc9(l:List V3)(a c:Nat)(s:PLq)(k:Nat):(Nb5 l a c s k).length<=s.length+2:=by
 unfold Nb5;split
 ·have h1:=wd2 (Sb0 s (u9 (gL tV l k) (gL tV l c) (gL tV l a)).1) (Y4 (u9 (gL tV l k) (gL tV l c) (gL tV l a)).1);have h2:=wd2 s (u9 (gL tV l k) (gL tV l c) (gL tV l a)).1;omega
 ·omega
theorem bf8(l:List V3)(a:Nat)(s:PLq)(c:Nat):(G2 l a s c).length<=s.length+2*c:=ob0 (Wc9 l a c) s c
theorem Gd3(l:List V3)(a:Nat)(s:PLq):∀j,j<=a->a<=48->((List.range j).foldl (G2 l a) s).length<=s.length+96*j
 |0,_,_=>Qac _
 |j+1,h,ha=>by
  rw[n4];have h1:=Gd3 l a s j (by omega) ha
  have h2:=bf8 l a ((List.range j).foldl (G2 l a) s) j;omega
theorem gd6(l:List V3)(hl:l.length<=48):∀j,j<=l.length->((List.range j).foldl (G1 l) []).length<=5000*j
 |0,_=>Qac _
 |j+1,h=>by
  rw[n4];have h1:=gd6 l hl j (by omega)
  have h2:(G1 l ((List.range j).foldl (G1 l) []) j).length<=_:=Gd3 l j ((List.range j).foldl (G1 l) []) j (Qac _) (by omega)
  omega
@[reducible] def mkf(l:List V3)(k:Nat)(s:PLq):w9:=⟨phP (fil l s),(k:Int),eb5 s,(fil l s).length,bL tP (fil l s)⟩
theorem Ib2{n:Nat}{l:PLq}(hn:n=l.length)(h:l.length<=1000000000):(Nat.beq n (len (bL tP l))&&Nat.ble ((n+1)*32) room)=true:=by
 subst hn;rw[S7,Qib,Qik];exact da0 (by omega)
theorem Pd3(o:PLq)(x:Pln):phP (o++[x])=1:=by cases o<;>rfl
theorem pe8(l:List V3)(hl:l.length<=48)(a c k:Nat)(ha:a<l.length)(hc:c<a)(hk:k<c)(x1 x2 x3 x4:Int)(s:PLq)(ho:s.length<=900000) :
  M5 ⟨(a:Int),(c:Int),x1,x2,x3,x4,(c:Int),l,l⟩ (mkf l k s)=.next (mkf l (k+1) (Nb5 l a c s k)):=by
 have hfl:qa8 (u9 (gL tV l k) (gL tV l c) (gL tV l a)).1=Y4 (u9 (gL tV l k) (gL tV l c) (gL tV l a)).1:=pe6 (Od5 _ _ _);have hb:∀p,V8 l p=bey l p:=λp=>pe0 l p (by omega)
 have hg:∀p,V9 l p=true:=λp=>pe1 l p (by omega)
 have hn:=n7 hk (show c<=4611686018427387904 by omega)
 have b1:inB (a:Int) l.length=true:=g7 ha;have b2:inB (c:Int) l.length=true:=g7 (by omega)
 have b3:inB (k:Int) l.length=true:=g7 (by omega)
 have hfl2:=gd5 l s;unfold Nb5;unfold mkf;generalize hT:u9 (gL tV l k) (gL tV l c) (gL tV l a)=T at *
 cases hO:fil l s with
 |nil =>
  show W4 Stp.next Stp.exit Stp.fail _ _=_;simp only[W4,rb9,Rb9,Int.toNat_natCast,j9,O7,hT,hfl,hb,hg,hn,b1,b2,b3,wd1];rw[btD (k8 hk)];cases h2:T.2 with
  |false=>simp only[Qil,if_false,hO];rfl
  |true =>
   simp only[if_true,l0];cases h3:ac6 s T.1 with
   |true =>
    cases h4:ac6 s (Y4 T.1) with
    |true=>simp only[Sb0,h3,h4,if_true,hO];rfl
    |false =>
     rw[Gd2 _ _ h4];cases h5:bey l (Y4 T.1)<;>(simp only[Sb0,h3,h4,h5,if_true,if_false,Qil,wc1,hO];rfl)
   |false =>
    simp only[Gd2 _ _ h3,wd1];cases h5:bey l T.1<;>cases h4:ac6 (s++[T.1]) (Y4 T.1)<;>(try simp only[Gd2 _ _ h4])<;>cases h6:bey l (Y4 T.1)<;>(simp only[Sb0,h3,h4,h5,h6,if_true,if_false,Qil,wc1,hO];rfl)
 |cons q o =>
  have rr:(Nat.beq (q::o).length (len (bL tP (q::o)))&&Nat.ble (((q::o).length+1)*32) room)=true:=Ib2 rfl (by rw[<- hO];omega)
  have ap:∀(O:PLq) (p:Pln),app (bL tP O) [[i p.n.x,i p.n.y,i p.n.z,i p.b]]=bL tP (O++[p]):=λO p=>xa2 tP O [p]
  have rr2:∀p:Pln,(Nat.beq ((q::o).length+1) (len (bL tP (q::o++[p])))&&Nat.ble (((q::o).length+1+1)*32) room)=true:=λp=>Ib2 (by simp) (by rw[<- hO,Qea,List.length_singleton];omega)
  show W5 Stp.next Stp.exit Stp.fail _ _=_;simp only[W5,rb9,Rb9,Int.toNat_natCast,j9,O7,hT,hfl,hb,hg,hn,b1,b2,b3,wd1,rr,ap,rr2];rw[btD (k8 hk)];cases h2:T.2 with
  |false=>simp only[Qil,if_false,hO];rfl
  |true =>
   simp only[if_true,l0];cases h3:ac6 s T.1 with
   |true =>
    cases h4:ac6 s (Y4 T.1) with
    |true=>simp only[Sb0,h3,h4,if_true,hO];rfl
    |false =>
     rw[Gd2 _ _ h4];cases h5:bey l (Y4 T.1)<;>(simp only[Sb0,h3,h4,h5,if_true,if_false,Qil,wc1,hO,Pd3,Qea,List.length_singleton];rfl)
   |false =>
    simp only[Gd2 _ _ h3,wd1];cases h5:bey l T.1<;>cases h4:ac6 (s++[T.1]) (Y4 T.1)<;>(try simp only[Gd2 _ _ h4])<;>cases h6:bey l (Y4 T.1)<;>(simp only[Sb0,h3,h4,h5,h6,if_true,if_false,Qil,wc1,hO,Pd3,Qea,List.length_singleton];rfl)
theorem bf9(l:List V3)(hl:l.length<=48)(a c:Nat)(ha:a<l.length)(hc:c<a)(x1 x2 x3 x4:Int)(s:PLq)(ho:s.length<=800000) :
  ∃j,lp (M5 ⟨(a:Int),(c:Int),x1,x2,x3,x4,(c:Int),l,l⟩) (mkf l 0 s)=(phP (fil l (G2 l a s c))+1,mkf l j (G2 l a s c)):=by
 have key:=L7 (step:=M5 ⟨(a:Int),(c:Int),x1,x2,x3,x4,(c:Int),l,l⟩) (mk:=mkf l) c (λj o=>j<=c/\o=(List.range j).foldl (Nb5 l a c) s) (λt r=>t=phP (fil l (G2 l a s c))+1/\∃j:Nat,r=mkf l j (G2 l a s c)) (by omega)
  (λj o hj hi=>by
   obtain⟨_,hi⟩:=hi;have hlen:o.length<=900000:=by
    rw[hi]
    have:=ob0 (Wc9 l a c) s j
    omega
   rw[pe8 l hl a c j ha hc hj x1 x2 x3 x4 o hlen];exact .nx ⟨_,rfl,by omega,by rw[n4,<- hi]⟩)
  (λj o hj hi=>by
   obtain⟨h1,hi⟩:=hi;have e:j=c:=by omega
   subst e;have hF:o=G2 l a s j:=hi;rw[<- hF];refine⟨_,?_,rfl,j,rfl⟩;unfold mkf;cases hO:fil l o with
   |nil =>
    show W4 Stp.next Stp.exit Stp.fail _ _=_;simp only[W4];rw[bfD (n9 (Qed _))];rfl
   |cons q o =>
    show W5 Stp.next Stp.exit Stp.fail _ _=_;simp only[W5];rw[bfD (n9 (Qed _))]
    rfl) 0 s ⟨Qee _,rfl⟩
 obtain⟨t,r,h1,rfl,j,rfl⟩:=key;exact⟨j,h1⟩
@[reducible] def Jc7(l:List V3)(k:Nat)(s:PLq):s9:=⟨phP (fil l s),(k:Int),l,l,eb5 s,(fil l s).length,bL tP (fil l s)⟩
theorem cf0(l:List V3)(hl:l.length<=48)(a:Nat)(ha:a<l.length)(x1 x2:Int)(s:PLq)(ho:s.length<=700000) :
  ∃j,lp (T2 ⟨(a:Int),x1,x2,(a:Int)⟩) (Jc7 l 0 s)=(phP (fil l (G1 l s a))+1,Jc7 l j (G1 l s a)):=by
 have key:=L7 (step:=T2 ⟨(a:Int),x1,x2,(a:Int)⟩) (mk:=Jc7 l) a (λj o=>j<=a/\o=(List.range j).foldl (G2 l a) s) (λt r=>t=phP (fil l (G1 l s a))+1/\∃j:Nat,r=Jc7 l j (G1 l s a)) (by omega)
  (λj o hj hi=>by
   obtain⟨hja,hi⟩:=hi;have hlen:o.length<=800000:=by rw[hi];have:=Gd3 l a s j hja (by omega);omega
   have hn:=n7 hj (show a<=4611686018427387904 by omega)
   have bj:inB (j:Int) (l.length+1)=true:=g7 (by omega)
   obtain⟨j',e1⟩:=bf9 l hl a j ha hj x1 x2 (a:Int) (j:Int) o hlen
   have fin : ∀ {r : s9}, r = Jc7 l (j + 1) (G2 l a o j) → Nx (.next r) (fun t => t = phP (fil l (G1 l s a)) + 1 ∧ ∃ j' : Nat, Jc7 l j o = Jc7 l j' (G1 l s a))
     (λr=>∃o',r=Jc7 l (j+1) o'/\(j+1<=a/\o'=(List.range (j+1)).foldl (G2 l a) s)):=λ{r} hs =>
    .nx ⟨_,hs,by omega,by rw[n4,<- hi]⟩
   clear hi
   generalize hF:G2 l a o j=R at *
   unfold Jc7 at *
   unfold mkf at e1;cases hO:fil l o with
   |nil =>
    rw[hO] at e1 fin;show Nx (W6 Stp.next Stp.exit Stp.fail _ _) _ _;simp only[W6,j9,i8,hn,bj,Int.toNat_natCast,Nat.sub_zero];have e1:lp (M5 ⟨(a:Int),(j:Int),x1,x2,(a:Int),(j:Int),(j:Int),l,l⟩) ⟨0,0,eb5 o,0,[]⟩=_:=e1;rw[btD (k8 hj),e1];cases hR:fil l R with
    |nil=>exact fin (by rw[hR];rfl)
    |cons q R'=>exact fin (by rw[hR];rfl)
   |cons q o' =>
    rw[hO] at e1 fin;show Nx (W7 Stp.next Stp.exit Stp.fail _ _) _ _;simp only[W7,j9,i8,hn,bj,Int.toNat_natCast,Nat.sub_zero];have e1:lp (M5 ⟨(a:Int),(j:Int),x1,x2,(a:Int),(j:Int),(j:Int),l,l⟩) ⟨1,0,eb5 o,(q::o').length,bL tP (q::o')⟩=_:=e1;rw[btD (k8 hj),e1];cases hR:fil l R with
    |nil=>exact fin (by rw[hR];rfl)
    |cons q R'=>exact fin (by rw[hR];rfl))
  (λj o hj hi=>by
   obtain⟨h1,hi⟩:=hi;have e:j=a:=by omega
   subst e;have hF:o=G1 l s j:=hi;rw[<- hF];refine⟨_,?_,rfl,j,rfl⟩;unfold Jc7;cases hO:fil l o with
   |nil =>
    show W6 Stp.next Stp.exit Stp.fail _ _=_;simp only[W6];rw[bfD (n9 (Qed _))];rfl
   |cons q o =>
    show W7 Stp.next Stp.exit Stp.fail _ _=_;simp only[W7];rw[bfD (n9 (Qed _))]
    rfl) 0 s ⟨Qee _,rfl⟩
 obtain⟨t,r,h1,rfl,j,rfl⟩:=key;exact⟨j,h1⟩
@[reducible] def gd7(l:List V3)(k:Nat)(s:PLq):z6:=⟨phP (fil l s),(k:Int),l,l,eb5 s,(fil l s).length,bL tP (fil l s)⟩
theorem cf1(l:List V3)(hl:l.length<=48) :
  ∃j,lp (wa5 ⟨(l.length:Int)⟩) ⟨0,0,l,l,[],0,[]⟩=(phP (fil l (G0 l))+1,gd7 l j (G0 l)):=by
 have key:=L7 (step:=wa5 ⟨(l.length:Int)⟩) (mk:=gd7 l) l.length (λj o=>j<=l.length/\o=(List.range j).foldl (G1 l) []) (λt r=>t=phP (fil l (G0 l))+1/\∃j:Nat,r=gd7 l j (G0 l)) (by omega)
  (λj o hj hi=>by
   obtain⟨hja,hi⟩:=hi;have hlen:o.length<=700000:=by rw[hi];have:=gd6 l hl j hja;omega
   have hn:=n7 hj (show l.length<=4611686018427387904 by omega)
   have bj:inB (j:Int) (l.length+1)=true:=g7 (by omega)
   obtain⟨j',e1⟩:=cf0 l hl j hj (l.length:Int) (j:Int) o hlen
   have fin : ∀ {r : z6}, r = gd7 l (j + 1) (G1 l o j) → Nx (.next r) (fun t => t = phP (fil l (G0 l)) + 1 ∧ ∃ j' : Nat, gd7 l j o = gd7 l j' (G0 l))
     (λr=>∃o',r=gd7 l (j+1) o'/\(j+1<=l.length/\o'=(List.range (j+1)).foldl (G1 l) [])):=λ{r} hs =>
    .nx ⟨_,hs,by omega,by rw[n4,<- hi]⟩
   clear hi
   generalize hF:G1 l o j=R at *
   unfold gd7 at *
   unfold Jc7 at e1;cases hO:fil l o with
   |nil =>
    rw[hO] at e1 fin;show Nx (W8 Stp.next Stp.exit Stp.fail _ _) _ _;simp only[W8,j9,i8,hn,bj,Int.toNat_natCast,Nat.sub_zero];have e1:lp (T2 ⟨(j:Int),(l.length:Int),(j:Int),(j:Int)⟩) ⟨0,0,l,l,eb5 o,0,[]⟩=_:=e1;rw[btD (k8 hj),e1];cases hR:fil l R with
    |nil=>exact fin (by rw[hR];rfl)
    |cons q R'=>exact fin (by rw[hR];rfl)
   |cons q o' =>
    rw[hO] at e1 fin;show Nx (W9 Stp.next Stp.exit Stp.fail _ _) _ _;simp only[W9,j9,i8,hn,bj,Int.toNat_natCast,Nat.sub_zero];have e1:lp (T2 ⟨(j:Int),(l.length:Int),(j:Int),(j:Int)⟩) ⟨1,0,l,l,eb5 o,(q::o').length,bL tP (q::o')⟩=_:=e1;rw[btD (k8 hj),e1];cases hR:fil l R with
    |nil=>exact fin (by rw[hR];rfl)
    |cons q R'=>exact fin (by rw[hR];rfl))
  (λj o hj hi=>by
   obtain⟨h1,hi⟩:=hi;have e:j=l.length:=by omega
   subst e;have hF:o=G0 l:=hi;rw[<- hF];refine⟨_,?_,rfl,l.length,rfl⟩;unfold gd7;cases hO:fil l o with
   |nil =>
    show W8 Stp.next Stp.exit Stp.fail _ _=_;simp only[W8];rw[bfD (n9 (Qed _))];rfl
   |cons q o =>
    show W9 Stp.next Stp.exit Stp.fail _ _=_;simp only[W9];rw[bfD (n9 (Qed _))]
    rfl) 0 [] ⟨Qee _,rfl⟩
 obtain⟨t,r,h1,rfl,j,rfl⟩:=key;exact⟨j,h1⟩
end Go.Ev.Ce
