/- Own work. -/
import Derived.Test.YtekgjjgbdcgldaaGreatEvOD9
set_option linter.all false
def Qja:=@List.mem_cons
def Qjb:=@List.mem_append_left
def Qjc:=@List.mem_append
def Qjd:=@List.mem_append_right
def Qje:=@List.mem_singleton
def Qjf:=@List.length_take
def Qjg:=@List.mem_cons_of_mem
def Qjh:=@Int.le_of_lt
def Qji:=@List.mem_cons_self
def Qjj:=@List.length_append
def Qjk:=@Int.mul_nonneg
def Qjl:=@Nat.zero_add
def Qjm:=@List.pairwise_cons
def Qjn:=@Nat.le_refl
def Qjo:=@Int.mul_pos
def Qjp:=@Int.mul_eq_zero
def Qjq:=@Bool.and_eq_true
def Qjr:=@List.mem_filter
def Qjs:=@List.take_succ_eq_append_getElem
def Qjt:=@List.all_eq_true
def Qju:=@List.pairwise_singleton
def Qjv:=@Int.natCast_dvd_natCast
def Qjw:=@Int.mul_le_mul_of_nonneg_right
def Qjx:=@List.take_append_of_le_length
def Qjy:=@List.any_eq_true
def Qjz:=@List.filter_cons
def Qjaa:=@List.append_nil
def Qjab:=@List.mem_range
def Qjac:=@List.append_assoc
def Qjad:=@Nat.gcd_dvd_right
def Qjae:=@List.take_of_length_le
def Qjaf:=@Nat.lt_irrefl
def Qjag:=@List.findIdx_lt_length_of_exists
def Qjah:=@List.length_drop
def Qjai:=@Eq.trans
def Qjaj:=@Nat.gcd_dvd_left
def Qjak:=@List.not_mem_nil
def Qjal:=@List.mem_flatMap
def Qjam:=@List.length_set
def Qjan:=@Int.zero_mul
def Qjao:=@List.eq_nil_of_length_eq_zero
def Qjap:=@List.drop_zero
def Qjaq:=@Int.dvd_natAbs
def Qjar:=@Nat.zero_le
def Qjas:=@List.filter_append
def Qjat:=@List.getD_eq_getElem?_getD
def Qjau:=@Nat.dvd_trans
def Qjav:=@List.findIdx_cons
def Qjaw:=@Bool.not_eq_true'
def Qjax:=@List.drop_eq_getElem_cons
def Qjay:=@Int.mul_pos_of_neg_of_neg
def Qjaz:=@Classical.byContradiction
def Qjba:=@Nat.not_lt_zero
def Qjbb:=@List.drop_eq_nil_of_le
def Qjbc:=@Int.le_refl
def Qjbd:=@List.getElem_set_self
def Qjbe:=@List.length_replicate
def Qjbf:=@List.length_filter_le
def Qjbg:=@Bool.and_true
namespace Go.Ev.Ce
open Go Go.Ev Go.Ev.L Go.Proofs
noncomputable def onc(X:List Pt)(p:Pln):Nat:=X.countP λx=>rm p x==0
noncomputable def keep(X:List Pt)(p:Pln):Bool:=!decide ((onc X p:Int)<3)
theorem Yc4(p:Pln)(X:List Pt)(hX:X.length<=1000000000):ra3 ⟨p.n.x,p.n.y,p.n.z,p.b,X⟩=⟨1,!keep X p,X⟩:=by
 have h:=dc3 (step:=ua6 ⟨X,(X.length:Int),X,p.n.x,p.n.y,p.n.z,p.b⟩) (mk:=λj (n:Nat)=>(⟨(n:Int),(j:Int)⟩:R9)) (f:=λn x=>if rm p x==0 then n+1 else n) (fin:=1) tX X (λj n=>n<=j) hX
  (λj n hj hi=>by
   have hW:W ((n:Int)+1)=((n+1:Nat):Int):=by rw[qa9 (by omega) (by omega)];omega
   refine⟨?_,by show (if rm p (gL tX X j)==0 then n+1 else n)<=j+1;split<;>omega⟩
   simp only[ua6,pa6,Int.toNat_natCast,xd0,hW,r8 hj (show X.length<=4611686018427387904 by omega)]
   rw[btD (l0 hj),bt (d9 hj)];cases rm p (gL tX X j)==0<;>rfl)
  (λn _=>by simp only[ua6,pa6];rw[bfD (D7 (Qjaf _))]) 0 (Qjar _) 0 (Qjn _)
 have h:=h.1;have e:∀(l:List Pt) (n:Nat),l.foldl (λn x=>if rm p x==0 then n+1 else n) n=n+l.countP λx=>rm p x==0:=by
  intro l
  induction l with
  |nil=>intro n;rfl
  |cons x l ih =>
   intro n;rw[List.foldl_cons,ih,List.countP_cons]
   split<;>omega
 rw[Qjap,e,Qjl] at h;unfold ra3 Ba7 keep onc;simp only[i8,n9];rw[show (⟨0,0⟩:R9)=⟨((0:Nat):Int),((0:Nat):Int)⟩ from rfl,h]
 show Ba6.mk 1 (decide _) X=Ba6.mk 1 (!(!(decide _))) X;rw[Bool.not_not]
theorem Qe1(l:List Pln)(X:List Pt)(hl:l.length<=1000000000)(hX:X.length<=1000000000):Z5 ⟨l.length,bL tP l,X⟩=⟨1,if l.any (λp=>!keep X p) then ((l.findIdx (λp=>!keep X p):Nat):Int) else -1,X⟩:=by
 have h:=Ua7 (step:=K0 ⟨l.length,(l.length:Int),bL tP l⟩) (mk:=λj=>(⟨(j:Int),X⟩:p5)) (c:=λp=>!keep X p) (u:=1) (fin:=2) tP l hl
  (λj hj=>by
   simp only[K0,H5,Int.toNat_natCast,i8,n9,Nc9 hj,vc0 hj,Yc4 _ _ hX,r8 hj (show l.length<=4611686018427387904 by omega)]
   rw[btD (l0 hj),bt (d9 hj)]
   rfl)
  (by simp only[K0,H5];rw[bfD (D7 (Qjaf _))]) 0 (Qjar _)
 rw[Qjap] at h;unfold Z5 I6;simp only[i8,n9];rw[show (⟨0,X⟩:p5)=⟨((0:Nat):Int),X⟩ from rfl,h]
 cases ha:l.any λp=>!keep X p with
 |false=>rfl
 |true =>
  have hf:l.findIdx (λp=>!keep X p)<l.length:=by
   rw[Qjy] at ha;obtain⟨p,hp,hc⟩:=ha;exact Qjag ⟨p,hp,hc⟩
  simp only[if_true,Qjl,Int.toNat_natCast,vc0 hf,Yc4 _ _ hX,i8];rfl
theorem vc4{α:Type}(c:α->Bool):∀l:List α,(l.take (l.findIdx c)).filter (λx=>!c x)=l.take (l.findIdx c)
 |[]=>rfl
 |x::l=>by
  rw[Qjav];cases h:c x with
  |true=>rfl
  |false =>
   simp only[cond_false,List.take_succ_cons,Qjz,h,Bool.not_false,if_true];rw[vc4 c l]
theorem Yd7{α:Type}(l:List α)(j:Nat)(h:j<l.length):l.take (j+1)=l.take j++[l[j]]:=by rw[Qjs h]
theorem Oc1{α:Type}(t:Ty α){l:List α}{j:Nat}(h:j<l.length):l.take (j+1)=l.take j++[gL t l j]:=by rw[Yd7 l j h,fb6 t h]
theorem Dc0{α:Type}(t:Ty α){l r:List α}{j:Nat}(h:l.drop j=r.drop j):gL t l j=gL t r j:=by
 have h1:=uc7 t l j 0;have h2:=uc7 t r j 0;rw[Nat.add_zero] at h1 h2;rw[<- h1,<- h2,h]
theorem vc5{α:Type}{l r:List α}{j:Nat}(h:l.drop j=r.drop j)(k:Nat):l.drop (j+k)=r.drop (j+k):=by rw[<- List.drop_drop,<- List.drop_drop,h]
structure Del(l:List Pln)(f:Pln->Bool)(cur:List Pln)(m j:Nat):Prop where
 len:cur.length=l.length
 t:cur.take m=(l.take j).filter f
 d:cur.drop j=l.drop j
 le:m<=j
 lm:m<=l.length
theorem Nd1 (l : List Pln) (X : List Pt) (hl : l.length ≤ 1000000000) (hX : X.length ≤ 1000000000) (m j : Nat) (cur : List Pln) (hd : Del l (keep X) cur m j) :
  ∃t s,lp (D4 ⟨l.length⟩) ⟨(m:Int),(j:Int),bL tP cur,X⟩=(t,s)/\(t=1/\∃m' cur' k,s=⟨((m':Nat):Int),((k:Nat):Int),bL tP cur',X⟩/\Del l (keep X) cur' m' k/\l.length<=k):=by
 refine pa5 (step:=D4 ⟨l.length⟩) (mk:=λj (x:Nat×List Pln)=>(⟨(x.1:Int),(j:Int),bL tP x.2,X⟩:u7)) l.length (λj x=>Del l (keep X) x.2 x.1 j) (λt s=>t=1/\∃m' cur' k,s=⟨((m':Nat):Int),((k:Nat):Int),bL tP cur',X⟩/\Del l (keep X) cur' m' k/\l.length<=k) hl (λj x hj hx=>?_) (λj x hj hx=>?_) j (m,cur) hd
 ·obtain⟨m,cur⟩:=x;obtain⟨h1,h2,h3,h4,h5⟩:=hx
  simp only at h1 h2 h3 h4 h5
  have hjc:j<cur.length:=by omega
  have hmc:m<cur.length:=by omega
  have hg:gL tP cur j=gL tP l j:=Dc0 tP h3;have hWm:W ((m:Int)+1)=((m+1:Nat):Int):=by rw[qa9 (by omega) (by omega)];omega
  have hb:Nat.blt m cur.length=true:=by rw[Nat.blt_eq];exact hmc
  have hrow:i6 (bL tP cur) m=tP.row (gL tP cur m):=ba2 tP hmc;have sp:∀(v:Pln) (x1 x2 x3 x4:Int),ta0 (tP.row v) 0 [i x1,i x2,i x3,i x4]=tP.row ⟨⟨x1,x2,x3⟩,x4⟩:=λ_ _ _ _ _=>rfl
  have rl:∀v:Pln,Nat.ble (0+4) (len (tP.row v))=true:=λ_=>rfl
  simp only[D4,H6,Int.toNat_natCast,i8,n9,Nc9 hjc,vc0 hjc,Yc4 _ _ hX,r8 hj (show l.length<=4611686018427387904 by omega),hWm]
  rw[btD (l0 hj),bt (d9 hj)];simp only[Qjl,hrow,qa8,hb,sp,Fd3,d9 (show m<l.length by omega),hg]
  have ht:=Oc1 tP hj;have hd1:cur.drop (j+1)=l.drop (j+1):=vc5 h3 1;cases hk:keep X (gL tP l j) with
  |true =>
   refine .nx ⟨(m+1,cur.set m (gL tP l j)),rfl,⟨by rw[Qjam];exact h1,?_,?_,by omega,by show m+1<=l.length;omega⟩⟩
   ·show (cur.set m (gL tP l j)).take (m+1)=_;rw[ht,Qjas,Qjs (by rw[Qjam];exact hmc),Qjbd,List.take_set_of_le (Qjn _),h2,Qjz,hk,if_pos rfl,List.filter_nil]
   ·show (cur.set m (gL tP l j)).drop (j+1)=_;rw[List.drop_set_of_lt (by omega),hd1]
  |false =>
   refine .nx ⟨(m,cur),rfl,⟨h1,?_,hd1,by omega,h5⟩⟩
   show cur.take m=_;rw[ht,Qjas,h2,Qjz,hk,if_neg (by simp),List.filter_nil,Qjaa]
 ·obtain⟨m,cur⟩:=x;refine⟨1,?_,rfl,m,cur,j,rfl,hx,hj⟩;simp only[D4,H6];rw[bfD (by omega)]
theorem fe2(l:List Pln)(n:Nat):M8 (bL tP l) n=bL tP (l.take n):=by unfold bL;rw[N0,o5,o5,List.map_take]
theorem yd6(l:List Pln)(n:Nat):e8 (bL tP l) n=bL tP (l.drop n):=by unfold bL;rw[N1,o5,o5,List.map_drop]
theorem fe3(n:Nat):List.replicate n [i 0,i 0,i 0,i 0]=bL tP (List.replicate n ⟨⟨0,0,0⟩,0⟩):=by unfold bL;rw[o5,List.map_replicate];rfl
theorem od9 (l : List Pln) (X : List Pt) (hl : l.length ≤ 1000000000) (hX : X.length ≤ 1000000000) :
  ∃m r,I8 ⟨l.length,bL tP l,X⟩=⟨1,m,bL tP r,X⟩/\m<=r.length/\r.take m=l.filter (keep X)/\r.length=l.length:=by
 unfold I8 I7;simp only[i8,n9,Qe1 l X hl hX];cases ha:l.any λp=>!keep X p with
 |false =>
  refine⟨l.length,l,rfl,Qjn _,?_,rfl⟩;rw[List.take_length]
  symm
  rw[List.filter_eq_self];intro p hp
  have:=List.any_eq_false.1 ha p hp
  simpa using this
 |true =>
  have hf:l.findIdx (λp=>!keep X p)<l.length:=by
   rw[Qjy] at ha;obtain⟨p,hp,hc⟩:=ha;exact Qjag ⟨p,hp,hc⟩
  have hk:keep X (gL tP l (l.findIdx λp=>!keep X p))=false:=by
   have:=List.findIdx_getElem (xs:=l) (p:=λp=>!keep X p) (w:=hf)
   rw[fb6 tP hf];simpa using this
  have ht:=vc4 (λp=>!keep X p) l
  simp only[Bool.not_not] at ht;generalize hF:l.findIdx (λp=>!keep X p)=F at *
  have hW:W ((F:Int)+1)=((F+1:Nat):Int):=r8 hf (by omega)
  have hne:((F:Int)==-1)=false:=by rw[beq_eq_false_iff_ne];omega
  obtain⟨t,s,e1,rfl,m,cur,k,e2,e3,e4⟩:=Nd1 l X hl hX F (F+1) l ⟨rfl,by rw[Oc1 tP hf,Qjas,ht,Qjz,hk,if_neg (by simp),List.filter_nil,Qjaa],rfl,by omega,by omega⟩
  have hm:m<=l.length:=e3.lm;have hin:inB (m:Int) (l.length+1)=true:=d9 (by omega)
  have hfin:cur.take m=l.filter (keep X):=by rw[e3.t,Qjae e4]
  simp only[if_true,hW,hne,e1,e2,Int.toNat_natCast,hin,Qjl,Nat.sub_zero];refine⟨m,cur.take m++(List.replicate (l.length-m) ⟨⟨0,0,0⟩,0⟩++cur.drop (m+(l.length-m))),?_,?_,?_,?_⟩
  ·rw[fe2,fe3,yd6,bb0,bb0];rfl
  ·rw[Qjj,Qjj,Qjf,Qjbe,e3.len];omega
  ·rw[Qjx (by rw[Qjf,e3.len];omega),List.take_take,Nat.min_self,hfin]
  ·rw[Qjj,Qjj,Qjf,Qjbe,Qjah,e3.len];omega
def eqP(x y:Pln):Bool:=x.n.x==y.n.x&&(x.n.y==y.n.y&&(x.n.z==y.n.z&&(x.b==y.b&&true)))
theorem Bb2(x y:Pln):eqP x y=true↔x=y:=by
 unfold eqP;simp only[Qjbg,Qjq,beq_iff_eq];refine⟨λ⟨h1,h2,h3,h4⟩=>?_,λh=>by subst h;exact⟨rfl,rfl,rfl,rfl⟩⟩
 obtain⟨⟨x1,x2,x3⟩,x4⟩:=x;obtain⟨⟨y1,y2,y3⟩,y4⟩:=y
 simp only at h1 h2 h3 h4
 subst h1 h2 h3 h4;rfl
def ddF:Pln->List Pln->List Pln
 |_,[]=>[]
 |a,x::l=>if eqP x a then ddF x l else x::ddF x l
def dd:List Pln->List Pln
 |[]=>[]
 |x::l=>x::ddF x l
theorem fe4:∀(a:Pln) (l:List Pln),(ddF a l).length<=l.length
 |_,[]=>Qjn _
 |a,x::l=>by
  have:=fe4 x l
  unfold ddF
  split<;>simp only[List.length_cons]<;>omega
structure Cmp(l:List Pln)(n:Nat)(cur:List Pln)(m j:Nat)(R:List Pln):Prop where
 len:cur.length=l.length
 t:cur.take m++ddF (gL tP l (j-1)) ((l.take n).drop j)=R
 d:cur.drop (j-1)=l.drop (j-1)
 le:m+1<=j
theorem yd7 (l : List Pln) (n o : Nat) (hn : n ≤ l.length) (hl : l.length ≤ 1000000000) (ho : o < n) (m : Nat) (cur : List Pln) (R : List Pln) (hd : Cmp l n cur m (o + 1) R) :
  ∃t s,lp (s8 ⟨n,0+o,n-o⟩) ⟨(m:Int),((1:Nat):Int),bL tP cur⟩=(t,s)/\(t=1/\∃m' cur' k,s=⟨((m':Nat):Int),k,bL tP cur'⟩/\cur'.length=l.length/\cur'.take m'=R/\m'<=n):=by
 refine pa5 (step:=s8 ⟨n,0+o,n-o⟩) (mk:=λj (x:Nat×List Pln)=>(⟨(x.1:Int),(j:Int),bL tP x.2⟩:q7)) (n-o) (λj x=>Cmp l n x.2 x.1 (o+j) R/\1<=j/\x.1<=n) (λt s=>t=1/\∃m' cur' k,s=⟨((m':Nat):Int),k,bL tP cur'⟩/\cur'.length=l.length/\cur'.take m'=R/\m'<=n) (by omega) (λj x hj hx=>?_) (λj x hj hx=>?_) 1 (m,cur) ⟨hd,Qjn _,by have:=hd.le;show m<=n;omega⟩
 ·obtain⟨m,cur⟩:=x;obtain⟨⟨h1,h2,h3,h4⟩,hj1,hmn⟩:=hx
  simp only at h1 h2 h3 h4 hmn
  have hoj:o+j<n:=by omega
  have hjc:o+j<cur.length:=by omega
  have hjc':o+(j-1)<cur.length:=by omega
  have hmc:m<cur.length:=by omega
  have hg':gL tP cur (o+(j-1))=gL tP l (o+j-1):=by rw[show o+(j-1)=o+j-1 by omega];exact Dc0 tP h3
  have hd1:cur.drop (o+j)=l.drop (o+j):=by have:=vc5 h3 1;rw[show o+j-1+1=o+j by omega] at this;exact this
  have hg:gL tP cur (o+j)=gL tP l (o+j):=Dc0 tP hd1;have hWm:W ((m:Int)+1)=((m+1:Nat):Int):=by rw[qa9 (by omega) (by omega)];omega
  have hWj:W ((j:Int)-1)=((j-1:Nat):Int):=by rw[qa9 (by omega) (by omega)];omega
  have hb:Nat.blt m cur.length=true:=by rw[Nat.blt_eq];exact hmc
  have hrow:i6 (bL tP cur) m=tP.row (gL tP cur m):=ba2 tP hmc;have sp:∀(v:Pln) (x1 x2 x3 x4:Int),ta0 (tP.row v) 0 [i x1,i x2,i x3,i x4]=tP.row ⟨⟨x1,x2,x3⟩,x4⟩:=λ_ _ _ _ _=>rfl
  have rl:∀v:Pln,Nat.ble 4 (len (tP.row v))=true:=λ_=>rfl
  simp only[s8,N5,Int.toNat_natCast,Qjl,hWj,Vd1 tP hjc,Vd1 tP hjc',Vd0 tP hjc,Vd0 tP hjc',r8 hj (show n-o<=4611686018427387904 by omega),hWm,hg,hg',hrow,qa8,hb,sp,rl,Fd3,d9 (show m<n by omega)]
  rw[btD (l0 hj)];simp only[d9 hj,d9 (show j-1<n-o by omega),j5,Bool.and_self]
  rw[show ((gL tP l (o+j)).n.x==(gL tP l (o+j-1)).n.x&&((gL tP l (o+j)).n.y==(gL tP l (o+j-1)).n.y&&((gL tP l (o+j)).n.z==(gL tP l (o+j-1)).n.z&&((gL tP l (o+j)).b==(gL tP l (o+j-1)).b&&true))))=eqP (gL tP l (o+j)) (gL tP l (o+j-1)) from rfl]
  have hcons:(l.take n).drop (o+j)=gL tP l (o+j)::(l.take n).drop (o+(j+1)):=by
   rw[Qjax (by rw[Qjf];omega),List.getElem_take,fb6 tP (by omega)]
   rfl
  rw[hcons] at h2;have hlast:o+(j+1)-1=o+j:=by omega
  unfold ddF at h2;cases he:eqP (gL tP l (o+j)) (gL tP l (o+j-1)) with
  |true =>
   rw[he] at h2;simp only[if_true] at h2;refine .nx ⟨(m,cur),rfl,⟨⟨h1,?_,?_,by show m+1<=o+(j+1);omega⟩,by omega,hmn⟩⟩
   ·rw[hlast];exact h2
   ·rw[hlast];exact hd1
  |false =>
   rw[he] at h2;simp only[Bool.false_eq_true,if_false] at h2;refine .nx ⟨(m+1,cur.set m (gL tP l (o+j))),rfl,⟨⟨by rw[Qjam];exact h1,?_,?_,by show m+1+1<=o+(j+1);omega⟩,by omega,by show m+1<=n;omega⟩⟩
   ·rw[hlast];show (cur.set m (gL tP l (o+j))).take (m+1)++_=R;rw[Qjs (by rw[Qjam];exact hmc),Qjbd,List.take_set_of_le (Qjn _),Qjac]
    exact h2
   ·rw[hlast];show (cur.set m (gL tP l (o+j))).drop (o+j)=_;rw[List.drop_set_of_lt (by omega),hd1]
 ·obtain⟨m,cur⟩:=x;obtain⟨⟨h1,h2,h3,h4⟩,hj1,hmn⟩:=hx
  simp only at h1 h2 h3 h4 hmn
  refine⟨1,?_,rfl,m,cur,_,rfl,h1,?_,hmn⟩
  ·simp only[s8,N5];rw[bfD (by omega)]
  ·rw[Qjbb (by rw[Qjf];omega)] at h2
   unfold ddF at h2;rw[Qjaa] at h2;exact h2
theorem Yc5 (l : List Pln) (n : Nat) (hn : n ≤ l.length) (hl : l.length ≤ 1000000000) :
  ∃m r,W5 ⟨n,bL tP l⟩=⟨1,m,bL tP r⟩/\m<=r.length/\r.take m=dd (l.take n):=by
 unfold W5 O0
 simp only
 by_cases h2:(n:Int)<2
 ·rw[btD h2];refine⟨n,l,rfl,hn,?_⟩
  have:n=0\/n=1:=by omega
  rcases this with rfl|rfl
  ·rfl
  ·cases l with
   |nil=>rfl
   |cons x l=>rfl
 ·rw[bfD h2];have h1n:1<=n:=by omega
  have hI : ∀ j, j < n → 1 ≤ j → l.take j ++ ddF (gL tP l (j - 1)) ((l.take n).drop j) = dd (l.take n) →
    (eqP (gL tP l j) (gL tP l (j-1))=true->Cmp l n l j (j+1) (dd (l.take n)))/\(eqP (gL tP l j) (gL tP l (j-1))=false->l.take (j+1)++ddF (gL tP l (j+1-1)) ((l.take n).drop (j+1))=dd (l.take n)):=by
   intro j hj hj1 hR;have hcons:(l.take n).drop j=gL tP l j::(l.take n).drop (j+1):=by
    rw[Qjax (by rw[Qjf];omega),List.getElem_take,fb6 tP (by omega)]
   rw[hcons] at hR;unfold ddF at hR;constructor
   ·intro he;rw[he] at hR;simp only[if_true] at hR;exact⟨rfl,hR,rfl,Qjn _⟩
   ·intro he;rw[he] at hR;simp only[Bool.false_eq_true,if_false] at hR;rw[Oc1 tP (show j<l.length by omega),Qjac]
    exact hR
  have inner:∀k,k<n->1<=k->Cmp l n l k (k+1) (dd (l.take n))->∃m' cur' k',lp (s8 ⟨n,0+k,n-k⟩) ⟨(k:Int),1,bL tP l⟩=(1,⟨((m':Nat):Int),k',bL tP cur'⟩)/\cur'.length=l.length/\cur'.take m'=dd (l.take n)/\m'<=n:=by
   intro k hk hk1 hc;obtain⟨t,s,e1,rfl,m',cur',k',rfl,e2,e3,e4⟩:=yd7 l n k hn hl hk k l _ hc;exact⟨m',cur',k',e1,e2,e3,e4⟩
  have key:=pa5 (step:=P1 ⟨n,bL tP l⟩) (mk:=λj (_:Unit)=>(⟨(j:Int)⟩:w6)) n (λj _=>1<=j/\j<=n/\l.take j++ddF (gL tP l (j-1)) ((l.take n).drop j)=dd (l.take n))
   (λt s=>(t=1/\∃k:Nat,s=⟨(k:Int)⟩/\k<n/\1<=k/\Cmp l n l k (k+1) (dd (l.take n)))\/(t=2/\l.take n=dd (l.take n))) (by omega) (λj x hj hx=>?_) (λj x hj hx=>?_) 1 () ⟨Qjn _,h1n,by
    cases l with
    |nil=>simp only[List.length_nil] at hn;omega
    |cons x l =>
     cases n with
     |zero=>omega
     |succ n=>rfl⟩
  ·obtain⟨t,s,e1,e2⟩:=key;rw[show (⟨1⟩:w6)=⟨((1:Nat):Int)⟩ from rfl,e1]
   rcases e2 with⟨rfl,k,rfl,hk,hk1,hc⟩|⟨rfl,he⟩
   ·obtain⟨m',cur',k',e2,e3,e4,e5⟩:=inner k hk hk1 hc;simp only[Int.toNat_natCast,e2];simp only[Qjl,Nat.sub_zero];refine⟨m',cur'.take m'++(List.replicate (n-m') ⟨⟨0,0,0⟩,0⟩++cur'.drop (m'+(n-m'))),?_,?_,?_⟩
    ·rw[fe2,fe3,yd6,bb0,bb0];rfl
    ·rw[Qjj,Qjf,e3];omega
    ·rw[Qjx (by rw[Qjf,e3];omega),List.take_take,Nat.min_self,e4]
   ·exact⟨n,l,rfl,hn,he⟩
  ·obtain⟨hj1,hjn,hR⟩:=hx;obtain⟨i1,i2⟩:=hI j hj hj1 hR;have hWj:W ((j:Int)-1)=((j-1:Nat):Int):=by rw[qa9 (by omega) (by omega)];omega
   have hjl:j<l.length:=by omega
   have hjl':j-1<l.length:=by omega
   simp only[P1,N6,Int.toNat_natCast,hWj,Nc9 hjl,Nc9 hjl',vc0 hjl,vc0 hjl',r8 hj (show n<=4611686018427387904 by omega)]
   rw[btD (l0 hj),bt (d9 hj),bt (d9 (show j-1<n by omega)),bt (d9 (show j<n+1 by omega))]
   simp only[j5];rw[show ((gL tP l j).n.x==(gL tP l (j-1)).n.x&&((gL tP l j).n.y==(gL tP l (j-1)).n.y&&((gL tP l j).n.z==(gL tP l (j-1)).n.z&&((gL tP l j).b==(gL tP l (j-1)).b&&true))))=eqP (gL tP l j) (gL tP l (j-1)) from rfl]
   cases he:eqP (gL tP l j) (gL tP l (j-1)) with
   |false=>exact .nx ⟨(),rfl,by omega,by omega,i2 he⟩
   |true =>
    obtain⟨m',cur',k',e2,e3,e4,e5⟩:=inner j hj hj1 (i1 he);rw[e2];simp only[d9 (show m'<n+1 by omega)]
    exact .ex (.inl ⟨rfl,j,rfl,hj,hj1,i1 he⟩)
  ·obtain⟨hj1,hjn,hR⟩:=hx;refine⟨2,?_,.inr ⟨rfl,?_⟩⟩
   ·simp only[P1,N6];rw[bfD (by omega)]
   ·have:j=n:=by omega
    subst this;rw[Qjbb (by rw[Qjf];omega)] at hR
    unfold ddF at hR;rw[Qjaa] at hR;exact hR
theorem Be9(l:List Pln)(n:Nat)(hn:n<=l.length):slR tP (bL tP l) 0 n=l.take n:=lc5 tP (by rw[Qjf];omega) λk hk=>by
 rw[Qjl,ba2 tP (by omega)]
 congr 1;simp[gL,Qjat,List.getElem?_take,hk]
theorem Ce0(l:List Pln)(n:Nat)(hn:n<=l.length):okS tP (bL tP l) 0 n=true:=Kb6 tP (f:=λk=>gL tP l k) λk hk=>by rw[Qjl,ba2 tP (by omega)]
noncomputable def lean(c:List Pln):List Pln:=if ful c then dd (Sa8 (c.filter (keep (pts c)))) else []
theorem fe5(p:Pln)(c:List Pln)(hc:c.length<=1000000):Rd (one (r1L tP)) (ib8 (p,c)) (λr=>r=lean (p::c)):=by
 have hl:(p::c).length<=1000000000:=by simp only[List.length_cons];omega
 have hX:=uc9 (p::c);unfold ib8 lean;simp only[i8,p7,n9,kf0,kf1,nc2 hl,nc3 hl,Yb7 hl,Yb8 hl];cases hf:ful (p::c) with
 |false=>exact⟨_,[],rfl,rfl,rfl⟩
 |true =>
  have ec:n5 (λk=>tP.row (gL tP (p::c) k)) (List.range (c.length+1))=bL tP (p::c):=sb5 tP (p::c)
  have hcl:pa8 (p,c)=⟨1,(p::c).length,bL tP (p::c)⟩:=by
   unfold pa8 T4;simp only[ec,qa8];have r:Nat.ble ((0+(p::c).length)*32) room=true:=Ua6 (by simp only[List.length_cons];omega)
   rw[r,Qjl];rfl
  obtain⟨m,r,e1,e2,e3,e4⟩:=od9 (p::c) (pts (p::c)) hl (by omega)
  have hm:m<=(p::c).length:=by
   have h1:=congrArg List.length e3;have h2:=Qjbf (keep (pts (p::c))) (p::c);rw[Qjf] at h1;omega
  have hs:(Sa8 (r.take m)).length=m:=by rw[ec5,Qjf];omega
  have hrows:app (bL tP (Sa8 (r.take m))) (e8 (bL tP r) m)=bL tP (Sa8 (r.take m)++r.drop m):=by rw[yd6,bb0]
  have hok:okL tP (c.length+1) (λk=>tP.row (gL tP (p::c) k))=true:=Kb6 tP (f:=λk=>gL tP (p::c) k) λ_ _=>rfl
  simp only[hcl,e1,Be9 r m e2,Ce0 r m e2,hrows,hok];obtain⟨m2,r2,k1,k2,k3⟩:=Yc5 (Sa8 (r.take m)++r.drop m) m (by rw[Qjj,hs];omega) (by rw[Qjj,hs,Qjah,e4];omega)
  rw[k1,qa8];have q1:Nat.ble m room=true:=by rw[Nat.ble_eq];unfold room;simp only[List.length_cons] at hm;omega
  have q2:Nat.ble m r.length=true:=by rw[Nat.ble_eq];exact e2
  rw[q1,q2];have hfin:r2.take m2=dd (Sa8 ((p::c).filter (keep (pts (p::c))))):=by
   rw[k3,Qjx (by rw[hs];omega),Qjae (by rw[hs];omega),e3]
  exact Be4 k2 rfl hfin
theorem ff4(p:Pln)(c:List Pln)(hc:c.length<=1000000):Hc4 (p,c)=lean (p::c):=(fe5 p c hc).p
theorem ff5(p:Pln)(c:List Pln)(hc:c.length<=1000000):Hc5 (p,c)=true:=(fe5 p c hc).g
end Go.Ev.Ce
namespace Go.Ev.Ce
open Go Go.Ev Go.Ev.L Go.Proofs Go.Sort
theorem Yc6(l:List Pln):List.Perm (Sa8 l) l:=List.mergeSort_perm l _
theorem oe4(x y z:Pln)(h1:(!ltOf na2 y x)=true)(h2:(!ltOf na2 z y)=true):(!ltOf na2 z x)=true:=by
 simp only[Qjaw,cb4,decide_eq_false_iff_not] at *
 unfold LtP at *
 omega
theorem oe5(x y:Pln):((!ltOf na2 y x)||!ltOf na2 x y)=true:=by
 simp only[Bool.or_eq_true,Qjaw,cb4,decide_eq_false_iff_not];unfold LtP;omega
theorem yd8(l:List Pln):(Sa8 l).Pairwise λx y=>(!ltOf na2 y x)=true:=List.pairwise_mergeSort oe4 oe5 l
instance:DecidableEq Pln:=λx y=>decidable_of_iff _ (Bb2 x y)
def PC:List Pt:=[⟨0,0,0,1⟩,⟨0,0,1,4⟩,⟨0,1,0,3⟩,⟨1,0,0,2⟩]
theorem Yd8:ful []=true:=by kernel_rfl
end Go.Ev.Ce
namespace Go.Ev.Ce
open Go Go.Ev Go.Ev.L Go.Proofs
set_option maxRecDepth 100000
noncomputable def Yc7:List (Nat×Sum):=[(182,ic9)]
theorem Nd2:g9 prog G Yc7:=⟨Xc5,trivial⟩
structure ib9 where
 b9:List Pln
 (j9 i5 k8 i9:Int)
structure pa9 where
 is5:Int
noncomputable def vc6(p:ib9)(s:pa9):St:=⟨eL tP p.b9::.unk::.unk::.ptr 0 0 0 0::.unk::i s.is5::ra 43 [],[⟨0,4,[[i p.j9,i p.i5,i p.k8,i p.i9]],true,false,0⟩]⟩
noncomputable def Pa3{α:Type}(k:pa9->α)(e:Nat->α)(z:α)(p:ib9)(s:pa9):α:=let t1:=(Oa4 (gL tP p.b9 s.is5.toNat) (⟨(⟨p.j9,p.i5,p.k8⟩:V3),p.i9⟩:Pln));(sl (decide (s.is5<(↑(List.length p.b9):Int))) (sl (inB s.is5 (List.length p.b9)) (sl (Eb6 (gL tP p.b9 s.is5.toNat) (⟨(⟨p.j9,p.i5,p.k8⟩:V3),p.i9⟩:Pln)) (sl (decide (t1<0)) (k ⟨W (s.is5+1)⟩) (e 1)) z) z) (e 2))
noncomputable def Ja7(p:ib9)(s:pa9):Stp pa9:=Pa3 .next .exit .fail p s
noncomputable def Zb4:Lo ib9 pa9:=⟨En Yc7,0,We3,[1,1,0,4,4],[0,3,5],.p,[⟨sLq tP::sUq::sUq::sPq 0::sUq::sIq::ru2 43 [],[⟨0,4,true,some [kLq 4]⟩],λa H=>(⟨aLq tP a 0,hIq H 0 0 0,hIq H 0 0 1,hIq H 0 0 2,hIq H 0 0 3⟩,⟨aIq a 5⟩)⟩],Ja7,[(some 0,λp s=>let t1:=(Oa4 (gL tP p.b9 s.is5.toNat) (⟨(⟨p.j9,p.i5,p.k8⟩:V3),p.i9⟩:Pln));⟨eL tP p.b9::.unk::.unk::.ptr 0 0 0 0::.unk::i s.is5::.unk::i s.is5::eL tP p.b9::i (↑(List.length p.b9):Int)::b (decide (s.is5<(↑(List.length p.b9):Int)))::b true::eL tP p.b9::i s.is5::.tptr [i (gL tP p.b9 s.is5.toNat).n.x,i (gL tP p.b9 s.is5.toNat).n.y,i (gL tP p.b9 s.is5.toNat).n.z,i (gL tP p.b9 s.is5.toNat).b]::.agg [i (gL tP p.b9 s.is5.toNat).n.x,i (gL tP p.b9 s.is5.toNat).n.y,i (gL tP p.b9 s.is5.toNat).n.z,i (gL tP p.b9 s.is5.toNat).b]::.agg [i p.j9,i p.i5,i p.k8,i p.i9]::i t1::b (decide (t1<0))::b (decide (t1<0))::ra 29 [],[⟨0,4,[[i p.j9,i p.i5,i p.k8,i p.i9]],true,false,0⟩]⟩),(some 0,λp s=>upq (vc6 p s) [(7,i s.is5),(8,eL tP p.b9),(9,i (↑(List.length p.b9):Int)),(10,b (decide (s.is5<(↑(List.length p.b9):Int)))),(11,b false),(12,u),(13,u),(14,u),(15,u),(16,u),(17,u),(18,u),(19,b false)])],vc6⟩
theorem yd9:Zb4.Ok:=Lo.ok [] (by kernel_rfl) .nil rfl (.cons (λa H=>by kernel_rfl) .nil) λp s=>(.of @Pa3 (λF _ _ _ _ _=>by unfold Pa3;(repeat' apply l5 (f:=F))<;>rfl) (by kernel_rfl))
noncomputable def Ib1(x:List Pln)(y:Pln):Option (a7×List a8):=let t1:=(lp (Ja7 (⟨rt tP x,y.n.x,y.n.y,y.n.z,y.b⟩:ib9)) (⟨0⟩:pa9));let a0:=(n5 (λk=>(λk=>(tP).row (gL tP (rt tP x) k)) (0+k)) (List.range (t1.2.is5.toNat-0)));let a1:=(n5 (λk=>(λk=>(tP).row (gL tP (rt tP x) k)) (t1.2.is5.toNat+k)) (List.range ((List.length (rt tP x))-t1.2.is5.toNat)));let a2:=(inB t1.2.is5 ((List.length (rt tP x))+1));let a3:=(Nat.beq (0+(len a0)) (len (app [] a0))&&Nat.ble (((0+(len a0))+1)*32) room);let a4:=(((0+(len a0))+1)+(len a1));let a5:=(gL tP (rt tP x) t1.2.is5.toNat);let a6:=(Nat.beq 0 0&&Nat.ble ((0+(len a0))*32) room);let w0:Option (a7×List a8):=(sl a2 (sl a6 (sl a3 (sl a2 (sl (Nat.beq ((0+(len a0))+1) (len (app (app [] a0) [[i y.n.x,i y.n.y,i y.n.z,i y.b]]))&&Nat.ble (a4*32) room) (some (.sl 0 0 a4 0,[⟨73,4,app (app (app [] a0) [[i y.n.x,i y.n.y,i y.n.z,i y.b]]) a1,true,false,0⟩])) none) none) none) none) none);let w1:Option (a7×List a8):=(sl (decide (t1.2.is5<(↑(List.length (rt tP x)):Int))) (sl (inB t1.2.is5 (List.length (rt tP x))) (sl ((a5.n.x==y.n.x)&&((a5.n.y==y.n.y)&&((a5.n.z==y.n.z)&&((a5.b==y.b)&&true)))) (some (eL tP (rt tP x),[])) w0) none) w0);(sl ((cnE tP x)&&true) (sl (Nat.beq t1.1 1) w1 (sl (Nat.beq t1.1 2) w1 none)) none)
noncomputable def rb0(x:List Pln)(y:Pln):List Pln:=Q5 (one (r1L tP)) (Ib1 x y)
noncomputable def rb1(x:List Pln)(y:Pln):Bool:=okO (one (r1L tP)) (Ib1 x y)
noncomputable def pd0:Sum:=ta3 (ba7 tP) (oa3 tP) (λx y=>.guard (rb1 x y) (.ret ((one (r1L tP)).enc (rb0 x y),[])))
theorem Yd9:e7 prog G 159 pd0:=Gb0 (bd yf4 Nd2) (one (r1L tP)) (o:=Ib1) λx y=>Da7 (.s .p (.s .p (.s (.b (.u Zb4.ls)) .p))) [Zb4.pr] (by kernel_rfl) (.cons yd9 .nil) (by kernel_rfl)
end Go.Ev.Ce
namespace Go.Ev.L
open Go Go.Ev
noncomputable def ff6:Cod Unit where
 enc _:=.v (.slice none 0 0)
 dec x:=match x with
  |.v (.slice none 0 0)=>some ()
  |_=>none
 grd _:=true
 ok x a hx _:=by
  split at hx
  ·exact .refl _
  ·cases hx
noncomputable def cE0:Cod (Addr×Nat) where
 enc z:=.v (.slice (some z.1) 0 z.2)
 dec x:=match x with
  |.v (.slice (some a) 0 c)=>some (a,c)
  |_=>none
 grd _:=true
 ok x a hx _:=by
  split at hx
  ·cases hx;exact .refl _
  ·cases hx
section
variable{α:Type}{t:Ty α}{P:Program}{G:Nat->List Value}{f:FuncId}
theorem zd0{β:Type}{c:Cod β}{k k':β->DT (a7×List a8)}(h:e7 P G f (ca7 c k))(hk:∀a r,(k' a).run=some r->(k a).run=some r):e7 P G f (ca7 c k'):=h.le λargs blks r hr=>by
 unfold ca7 at hr ⊢
 split at hr
 ·obtain⟨a,h1,hr⟩:=G6 hr;obtain⟨g,hr⟩:=DT.run_guard_some hr;simp only[h1,onO,g];exact hk a r hr
 ·cases hr
theorem ff7{k:List α->DT (a7×List a8)}(hA:e7 P G f (ca7 (ue3 t) λz=>k (z.1::z.2)))(hN:e7 P G f (ca7 ff6 λ_=>k []))(hE:e7 P G f (ca7 cE0 λ_=>k [])):e7 P G f (ca7 (ba7 t) k):=by
 intro args blks r out he W ρ F w args' hH hlen hargs hG;unfold ca7 at he
 split at he
 ·rename_i x;obtain⟨a,h1,he⟩:=G6 he;obtain⟨g1,hk⟩:=DT.run_guard_some he;have nilCase:∀v',args'[0]?=some v'->v'=.slice none 0 0->a=[]->rb9 P f/\Calls P f args'.toArray w λe w'=>∃r',e=.returned r'/\O9 W ρ [] F w r out r' w':=λv' hv e ha=>by
   subst ha;refine hN [.v (.slice none 0 0)] [] r out ?_ W ρ F w args' hH hlen (λi x' y' hx hy=>?_) hG
   ·exact hk
   ·match i with
    |0=>cases hx;rw[hv] at hy;cases hy;rw[e];exact .val (.cell (.v _))
    |i+1=>cases hx
  have emptyCase:∀v' ad c,args'[0]?=some v'->v'=.slice (some ad) 0 c->a=[]->rb9 P f/\Calls P f args'.toArray w λe w'=>∃r',e=.returned r'/\O9 W ρ [] F w r out r' w':=λv' ad c hv e ha=>by
   subst ha;refine hE [.v (.slice (some ad) 0 c)] [] r out ?_ W ρ F w args' hH hlen (λi x' y' hx hy=>?_) hG
   ·exact hk
   ·match i with
    |0=>cases hx;rw[hv] at hy;cases hy;rw[e];exact .val (.cell (.v _))
    |i+1=>cases hx
  obtain⟨v',hv⟩:∃v',args'[0]?=some v':=by
   cases args' with
   |nil=>simp at hlen
   |cons v' r'=>exact⟨v',rfl⟩
  cases x with
  |tree e n get =>
   have hb:Nat.beq e t.es=true/\a=lsL t n get:=by
    have h1:(Bool.rec none (some (lsL t n get)) (Nat.beq e t.es):Option (List α))=some a:=h1;cases hb:Nat.beq e t.es with
    |false=>rw[hb] at h1;cases h1
    |true =>
     rw[hb] at h1;have h1:some (lsL t n get)=some a:=h1;injection h1 with h1;exact⟨rfl,h1.symm⟩
   cases n with
   |zero =>
    have ha:a=[]:=hb.2;have hm:=ya0 (hargs 0 _ v' rfl hv);cases hm with
    |tree _ _ _ ad cap cs hs hcap hes hF hw hr=>exact emptyCase _ ad cap hv rfl ha
    |nil=>exact nilCase _ hv rfl ha
   |succ m =>
    have ha:a=hC t get::tC t m get:=hb.2.trans (Fd4 t m get);subst ha;refine hA [.tree e (m+1) get] [] r out ?_ W ρ F w args' hH hlen hargs hG;have hc:(ue3 t).dec (.tree e (m+1) get)=some (hC t get,tC t m get):=by
     show (Bool.rec none (some (hC t get,tC t m get)) (Nat.beq e t.es):Option (α×List α))=_;rw[hb.1]
    have hg:(ue3 t).grd (.tree e (m+1) get)=true:=g1;simp only[ca7,hc,onO,hg];exact hk
  |v q =>
   have hq:=ea0 (hargs 0 _ v' rfl hv);unfold ba7 at h1
   simp only at h1
   split at h1
   ·rename_i heq;cases heq
   ·rename_i heq;injection heq with heq;injection h1 with h1;exact nilCase v' hv (hq.trans heq) h1.symm
   ·rename_i ad c heq;injection heq with heq;injection h1 with h1;exact emptyCase v' _ _ hv (hq.trans heq) h1.symm
   ·cases h1
  |_=>cases h1
 ·cases he
end
end Go.Ev.L
namespace Go.Ev.Ce
open Go Go.Ev Go.Ev.L Go.Proofs
set_option maxRecDepth 100000
noncomputable def wb0:List (Nat×Sum):=[]
theorem gc1:g9 prog G wb0:=trivial
@[reducible] noncomputable def Bb3:Sum:=Fb4 (En wb0) Xe3
theorem nc5:e7 prog G 208 Bb3:=bd Af7 gc1
noncomputable def wb1:List (Nat×Sum):=[]
theorem gc2:g9 prog G wb1:=trivial
@[reducible] noncomputable def Bb4:Sum:=Fb4 (En wb1) Xe2
theorem nc6:e7 prog G 207 Bb4:=bd Af6 gc2
noncomputable def Ib2:List (Nat×Sum):=[(208,Bb3),(207,Bb4)]
theorem vc7:g9 prog G Ib2:=⟨nc5,nc6,trivial⟩
@[reducible] noncomputable def Qb7:Sum:=Fb4 (En Ib2) We6
theorem Dc1:e7 prog G 180 Qb7:=bd zf5 vc7
structure F7 where
noncomputable def ea2:List (Nat×Sum):=[]
theorem Ha1:g9 prog G ea2:=trivial
structure w7 where
structure l8 where
noncomputable def ba6(p:w7)(s:l8):St:=⟨.v (.slice none 0 0)::i 0::i 0::.fn 122 []::ra 4 (i 1::ra 44 []),[]⟩
noncomputable def L1{α:Type}(k:l8->α)(e:Nat->α)(z:α)(p:w7)(s:l8):α:=(e 1)
noncomputable def M7(p:w7)(s:l8):Stp l8:=L1 .next .exit .fail p s
noncomputable def N7:Lo w7 l8:=⟨En ea2,0,Xe1,[1,4,4],[0,1,2,3,8],.p,[⟨.s (.o .nil)::.s (.o (.lit .i64 0))::.s (.o (.lit .i64 0))::.s (.o (.fn 122))::ru2 4 (.s (.o (.lit .i64 1))::ru2 44 []),[],λa H=>(⟨⟩,⟨⟩)⟩],M7,[(some 0,λp s=>upq (ba6 p s) [(12,i 1),(13,i 0),(14,b false)])],ba6⟩
theorem Da8:N7.Ok:=Lo.ok [] (by kernel_rfl) .nil rfl (.cons (λa H=>by kernel_rfl) .nil) λp s=>(.of @L1 (λF _ _ _ _ _=>by unfold L1;(repeat' apply l5 (f:=F))<;>rfl) (by kernel_rfl))
structure F8 where
 alt:Nat
noncomputable def r6{α:Type}(kk:F8->α)(x:F7):α:=let t1:=(lp (M7 (⟨⟩:w7)) (⟨⟩:l8));(sl (Nat.beq t1.1 1) (kk ⟨1⟩) (kk ⟨0⟩))
noncomputable def F9(x:F7):F8:=r6 (λr=>r) x
noncomputable def O1(x:F7)(r:F8):DT (a7×List a8):=(.ite (Nat.beq r.alt 1) (.ret (.tup [],[])) .fail)
theorem Ma5{α β:Type}(F:α->β)(kk:F8->α)(x:F7):F (r6 kk x)=r6 (λr=>F (kk r)) x:=by unfold r6;(repeat' apply l5 (f:=F))<;>rfl
noncomputable def ga0:Sum:=Ta1 ⟨[.s (.o .nil),.s (.o (.lit .i64 0)),.s (.o (.lit .i64 0)),.s (.o (.fn 122))],[],λa H=>(⟨⟩,())⟩ (λx=>O1 x (F9 x))
theorem Ja8:e7 prog G 199 ga0:=L3 (enc:=λx=>⟨[.v (.slice none 0 0),i 0,i 0,.fn 122 []],[]⟩) (λa H=>by kernel_rfl) (bd Af5 Ha1) λx=>Da7 (.s .p (.b (.u N7.ls))) [N7.pr] (by kernel_rfl) (.cons Da8 .nil) (Qjai (b:=r6 (λr=>(O1 x r).run) x) (by kernel_rfl) (Ma5 (λr=>(O1 x r).run) (λr=>r) x).symm)
structure O2 where
noncomputable def sa4:List (Nat×Sum):=[(199,ga0)]
theorem Xa6:g9 prog G sa4:=⟨Ja8,trivial⟩
structure D8 where
structure q9 where
noncomputable def Ta3(p:D8)(s:q9):St:=⟨.v (.slice none 0 0)::i 0::i 0::i 0::.fn 122 []::ra 5 (b true::b true::ra 136 []),[]⟩
noncomputable def J2{α:Type}(k:q9->α)(e:Nat->α)(z:α)(p:D8)(s:q9):α:=let t1:=(F9 ⟨⟩);(sl (Nat.beq t1.alt 1) (e 1) z)
noncomputable def K3(p:D8)(s:q9):Stp q9:=J2 .next .exit .fail p s
noncomputable def W6:Lo D8 q9:=⟨En sa4,0,We5,[1,1,4,4],[0,1,2,3,4,10,11],.p,[⟨.s (.o .nil)::.s (.o (.lit .i64 0))::.s (.o (.lit .i64 0))::.s (.o (.lit .i64 0))::.s (.o (.fn 122))::ru2 5 (.s (.o (.blit true))::.s (.o (.blit true))::ru2 136 []),[],λa H=>(⟨⟩,⟨⟩)⟩],K3,[(none,λp s=>⟨[.tup []],[]⟩)],Ta3⟩
theorem Ta4:W6.Ok:=Lo.ok [] (by kernel_rfl) .nil rfl (.cons (λa H=>by kernel_rfl) .nil) λp s=>(.of @J2 (λF _ _ _ _ _=>by unfold J2;(repeat' apply l5 (f:=F))<;>rfl) (by kernel_rfl))
structure O3 where
 alt:Nat
noncomputable def A6{α:Type}(kk:O3->α)(x:O2):α:=let t1:=(lp (K3 (⟨⟩:D8)) (⟨⟩:q9));(sl (Nat.beq t1.1 1) (kk ⟨1⟩) (kk ⟨0⟩))
noncomputable def O4(x:O2):O3:=A6 (λr=>r) x
noncomputable def Y3(x:O2)(r:O3):DT (a7×List a8):=(.ite (Nat.beq r.alt 1) (.ret (.tup [],[])) .fail)
theorem cb5{α β:Type}(F:α->β)(kk:O3->α)(x:O2):F (A6 kk x)=A6 (λr=>F (kk r)) x:=by unfold A6;(repeat' apply l5 (f:=F))<;>rfl
noncomputable def va0:Sum:=Ta1 ⟨[.s (.o .nil),.s (.o (.lit .i64 0)),.s (.o (.lit .i64 0)),.s (.o (.lit .i64 0)),.s (.o (.fn 122))],[],λa H=>(⟨⟩,())⟩ (λx=>Y3 x (O4 x))
theorem Za4:e7 prog G 179 va0:=L3 (enc:=λx=>⟨[.v (.slice none 0 0),i 0,i 0,i 0,.fn 122 []],[]⟩) (λa H=>by kernel_rfl) (bd zf4 Xa6) λx=>Da7 (.s .p (.s .p (.b (.u W6.ls)))) [W6.pr] (by kernel_rfl) (.cons Ta4 .nil) (Qjai (b:=A6 (λr=>(Y3 x r).run) x) (by kernel_rfl) (cb5 (λr=>(Y3 x r).run) (λr=>r) x).symm)
structure ca2 where
noncomputable def yb9:List (Nat×Sum):=[(179,va0),(180,Qb7)]
theorem wb2:g9 prog G yb9:=⟨Za4,Dc1,trivial⟩
structure ca3 where
 alt:Nat
noncomputable def K8{α:Type}(kk:ca3->α)(x:ca2):α:=let t1:=(O4 ⟨⟩);(sl (Nat.beq t1.alt 1) (kk ⟨1⟩) (kk ⟨0⟩))
noncomputable def ca4(x:ca2):ca3:=K8 (λr=>r) x
noncomputable def na3(x:ca2)(r:ca3):DT (a7×List a8):=(.ite (Nat.beq r.alt 1) (.ret (.tup [],[])) .fail)
theorem Fb0{α β:Type}(F:α->β)(kk:ca3->α)(x:ca2):F (K8 kk x)=K8 (λr=>F (kk r)) x:=by unfold K8;(repeat' apply l5 (f:=F))<;>rfl
noncomputable def Pa4:Sum:=Ta1 ⟨[.s (.o .nil),.s (.o (.fn 122))],[],λa H=>(⟨⟩,())⟩ (λx=>na3 x (ca4 x))
theorem zb0:e7 prog G 121 Pa4:=L3 (enc:=λx=>⟨[.v (.slice none 0 0),.fn 122 []],[]⟩) (λa H=>by kernel_rfl) (bd wf9 wb2) λx=>A7 (Qjai (b:=K8 (λr=>(na3 x r).run) x) (by kernel_rfl) (Fb0 (λr=>(na3 x r).run) (λr=>r) x).symm)
structure aa0 where
 d8:List Pt
noncomputable def Ha2:List (Nat×Sum):=[]
theorem pb2:g9 prog G Ha2:=trivial
structure M4 where
 d8:List Pt
structure A2 where
noncomputable def Aa8(p:M4)(s:A2):St:=⟨.v (.slice none 0 0)::.fn 152 [.ptr 0 0 0 0]::ra 5 (i 0::i 0::ra 10 []),[⟨0,1,[[eL tX p.d8]],true,false,0⟩]⟩
noncomputable def da6{α:Type}(k:A2->α)(e:Nat->α)(z:α)(p:M4)(s:A2):α:=(e 1)
noncomputable def fa4(p:M4)(s:A2):Stp A2:=da6 .next .exit .fail p s
noncomputable def ia1:Lo M4 A2:=⟨En Ha2,1,Id3,[1,0,1,4,4],[0,1,7,8],.p,[⟨.s (.o .nil)::.fn 152 [.o (.ptr 0 0 0 0)]::ru2 5 (.s (.o (.lit .i64 0))::.s (.o (.lit .i64 0))::ru2 10 []),[⟨0,1,true,some [[.c 4 (nL tX)]]⟩],λa H=>(⟨hLq tX H 0 0 0⟩,⟨⟩)⟩],fa4,[(some 0,λp s=>upq (Aa8 p s) [(9,b false)])],Aa8⟩
theorem mb3:ia1.Ok:=Lo.ok [] (by kernel_rfl) .nil rfl (.cons (λa H=>by kernel_rfl) .nil) λp s=>(.of @da6 (λF _ _ _ _ _=>by unfold da6;(repeat' apply l5 (f:=F))<;>rfl) (by kernel_rfl))
structure aa1 where
 alt:Nat
 d8:List Pt
noncomputable def J0{α:Type}(kk:aa1->α)(x:aa0):α:=let t1:=(lp (fa4 (⟨rt tX x.d8⟩:M4)) (⟨⟩:A2));(sl ((cnE tX x.d8)&&true) (sl (Nat.beq t1.1 1) (kk ⟨1,rt tX x.d8⟩) (kk ⟨0,[]⟩)) (kk ⟨0,[]⟩))
noncomputable def na4(x:aa0):aa1:=J0 (λr=>r) x
noncomputable def ka9(x:aa0)(r:aa1):DT (a7×List a8):=(.ite (Nat.beq r.alt 1) (.ret (i (-1),[⟨0,1,[[eL tX r.d8]],true,false,0⟩])) .fail)
theorem zb1{α β:Type}(F:α->β)(kk:aa1->α)(x:aa0):F (J0 kk x)=J0 (λr=>F (kk r)) x:=by unfold J0;(repeat' apply l5 (f:=F))<;>rfl
noncomputable def Ma0:Sum:=Ta1 ⟨[.s (.o .nil),.fn 152 [.o (.ptr 0 0 0 0)]],[⟨0,1,true,some [[.c 4 (nL tX)]]⟩],λa H=>(⟨hLq tX H 0 0 0⟩,())⟩ (λx=>ka9 x (na4 x))
theorem wb3:e7 prog G 139 Ma0:=L3 (enc:=λx=>⟨[.v (.slice none 0 0),.fn 152 [.ptr 0 0 0 0]],[⟨0,1,[[eL tX x.d8]],true,false,0⟩]⟩) (λa H=>by kernel_rfl) (bd Ne3 pb2) λx=>Da7 (.s .p (.s (.s .p (.b (.u ia1.ls))) .p)) [ia1.pr] (by kernel_rfl) (.cons mb3 .nil) (Qjai (b:=J0 (λr=>(ka9 x r).run) x) (by kernel_rfl) (zb1 (λr=>(ka9 x r).run) (λr=>r) x).symm)
structure W7 where
 d8:List Pt
noncomputable def pb3:List (Nat×Sum):=[(139,Ma0)]
theorem mb4:g9 prog G pb3:=⟨wb3,trivial⟩
structure W8 where
 alt:Nat
 d8:List Pt
noncomputable def G1{α:Type}(kk:W8->α)(x:W7):α:=let t1:=(na4 ⟨rt tX x.d8⟩);(sl ((cnE tX x.d8)&&true) (sl (Nat.beq t1.alt 1) (kk ⟨1,t1.d8⟩) (kk ⟨0,[]⟩)) (kk ⟨0,[]⟩))
noncomputable def W9(x:W7):W8:=G1 (λr=>r) x
noncomputable def ia2(x:W7)(r:W8):DT (a7×List a8):=(.ite (Nat.beq r.alt 1) (.ret (.v (.slice none 0 0),[⟨0,1,[[eL tX r.d8]],true,false,0⟩])) .fail)
theorem wb4{α β:Type}(F:α->β)(kk:W8->α)(x:W7):F (G1 kk x)=G1 (λr=>F (kk r)) x:=by unfold G1;(repeat' apply l5 (f:=F))<;>rfl
noncomputable def Ha3:Sum:=Ta1 ⟨[.s (.o .nil),.fn 152 [.o (.ptr 0 0 0 0)]],[⟨0,1,true,some [[.c 4 (nL tX)]]⟩],λa H=>(⟨hLq tX H 0 0 0⟩,())⟩ (λx=>ia2 x (W9 x))
theorem pb4:e7 prog G 150 Ha3:=L3 (enc:=λx=>⟨[.v (.slice none 0 0),.fn 152 [.ptr 0 0 0 0]],[⟨0,1,[[eL tX x.d8]],true,false,0⟩]⟩) (λa H=>by kernel_rfl) (bd pf7 mb4) λx=>Da7 .p [] (by kernel_rfl) .nil (Qjai (b:=G1 (λr=>(ia2 x r).run) x) (by kernel_rfl) (wb4 (λr=>(ia2 x r).run) (λr=>r) x).symm)
structure ea3 where
noncomputable def Fb1:List (Nat×Sum):=[]
theorem zb2:g9 prog G Fb1:=trivial
structure ea4 where
noncomputable def T5{α:Type}(kk:ea4->α)(x:ea3):α:=(kk ⟨⟩)
noncomputable def Ib3(x:ea3):ea4:=T5 (λr=>r) x
noncomputable def ra8(x:ea3)(r:ea4):DT (a7×List a8):=.ret (.v (.slice none 0 0),[])
theorem Ib4{α β:Type}(F:α->β)(kk:ea4->α)(x:ea3):F (T5 kk x)=T5 (λr=>F (kk r)) x:=by unfold T5;(repeat' apply l5 (f:=F))<;>rfl
noncomputable def Sa9:Sum:=Ta1 ⟨[.s (.o .nil)],[],λa H=>(⟨⟩,())⟩ (λx=>ra8 x (Ib3 x))
theorem Fb2:e7 prog G 154 Sa9:=L3 (enc:=λx=>⟨[.v (.slice none 0 0)],[]⟩) (λa H=>by kernel_rfl) (bd pf8 zb2) λx=>Da7 .p [] (by kernel_rfl) .nil (Qjai (b:=T5 (λr=>(ra8 x r).run) x) (by kernel_rfl) (Ib4 (λr=>(ra8 x r).run) (λr=>r) x).symm)
noncomputable def Ob3:List (Nat×Sum):=[]
theorem Ib5:g9 prog G Ob3:=trivial
structure ma3 where
noncomputable def aa9{α:Type}(kk:ma3->α)(x:Unit):α:=(kk ⟨⟩)
noncomputable def Sb2(x:Unit):ma3:=aa9 (λr=>r) x
noncomputable def xa2(r:ma3):DT (a7×List a8):=.ret (.v (.slice none 0 0),[])
theorem Sb3{α β:Type}(F:α->β)(kk:ma3->α)(x:Unit):F (aa9 kk x)=aa9 (λr=>F (kk r)) x:=by unfold aa9;(repeat' apply l5 (f:=F))<;>rfl
noncomputable def Za8:Sum:=ca7 ff6 (λx=>xa2 (Sb2 x))
theorem Ob4:e7 prog G 151 Za8:=Kb5 (bd df1 Ib5) λx=>A7 (Qjai (b:=aa9 (λr=>(xa2 r).run) x) (by kernel_rfl) (Sb3 (λr=>(xa2 r).run) (λr=>r) x).symm)
noncomputable def hd4:List (Nat×Sum):=[(55,va8),(113,Ba5),(151,Za8),(150,Ha3),(121,Pa4),(154,Sa9)]
theorem Yc8:g9 prog G hd4:=⟨wa7,Ga3,Ob4,pb4,zb0,Fb2,trivial⟩
noncomputable def Xa7(x:Unit):Option (a7×List a8):=let t1:=(ja2 []);let t2:=(ja0 []);let t4:=(W9 ⟨rt tX t2⟩);let t5:=(ca4 ⟨⟩);(sl (ja3 []) (sl (!t1) (some (.v (.slice none 0 0),[])) (sl (ja1 []) (sl ((cnE tX t2)&&true) (sl (Nat.beq t4.alt 1) (sl (Nat.beq t5.alt 1) (some (.v (.slice none 0 0),[])) none) none) none) none)) none)
noncomputable def Ob5(x:Unit):List Pln:=Q5 (one (r1L tP)) (Xa7 x)
noncomputable def Ob6(x:Unit):Bool:=okO (one (r1L tP)) (Xa7 x)
noncomputable def zd1:Sum:=ca7 ff6 (λx=>.guard (Ob6 x) (.ret ((one (r1L tP)).enc (Ob5 x),[])))
theorem hd5:e7 prog G 98 zd1:=Ta0 (bd b98 Yc8) (one (r1L tP)) (o:=Xa7) λx=>A7 (by kernel_rfl)
noncomputable def Ob7:List (Nat×Sum):=[]
theorem Ib6:g9 prog G Ob7:=trivial
structure ma4 where
noncomputable def ba0{α:Type}(kk:ma4->α)(x:Addr×Nat):α:=(kk ⟨⟩)
noncomputable def Sb4(x:Addr×Nat):ma4:=ba0 (λr=>r) x
noncomputable def xa3(r:ma4):DT (a7×List a8):=.ret (.sl 0 0 0 0,[⟨73,4,[],true,false,0⟩])
theorem Sb5{α β:Type}(F:α->β)(kk:ma4->α)(x:Addr×Nat):F (ba0 kk x)=ba0 (λr=>F (kk r)) x:=by unfold ba0;(repeat' apply l5 (f:=F))<;>rfl
noncomputable def Za9:Sum:=ca7 cE0 (λx=>xa3 (Sb4 x))
theorem Ob8:e7 prog G 151 Za9:=Kb5 (bd df1 Ib6) λx=>A7 (Qjai (b:=ba0 (λr=>(xa3 r).run) x) (by kernel_rfl) (Sb5 (λr=>(xa3 r).run) (λr=>r) x).symm)
noncomputable def hd6:List (Nat×Sum):=[(55,va8),(113,Ba5),(151,Za9),(150,na0),(121,ua9),(154,wa8)]
theorem Yc9:g9 prog G hd6:=⟨wa7,Ga3,Ob8,Ga9,Pa2,Sa7,trivial⟩
noncomputable def Xa8(x:Addr×Nat):Option (a7×List a8):=let t1:=(ja2 []);let t2:=(ja0 []);let t4:=(I8 ⟨0,[],rt tX t2⟩);let t5:=(W5 ⟨t4.ns0,app (bL tP (Sa8 (slR tP t4.eh0 0 t4.ns0))) (e8 t4.eh0 t4.ns0)⟩);(sl (ja3 []) (sl (!t1) (some (.v (.slice none 0 0),[])) (sl (ja1 []) (sl ((cnE tX t2)&&true) (sl (Nat.beq t4.alt 1) (sl (Bool.and (Nat.ble t4.ns0 room) (Bool.and (Nat.ble t4.ns0 (len t4.eh0)) (okS tP t4.eh0 0 t4.ns0))) (sl (Nat.beq t5.alt 1) (some (.sl 0 0 t5.ns0 0,[⟨73,4,t5.eh0,true,false,0⟩])) none) none) none) none) none)) none)
noncomputable def vc8(x:Addr×Nat):List Pln:=Q5 (one (r1L tP)) (Xa8 x)
noncomputable def vc9(x:Addr×Nat):Bool:=okO (one (r1L tP)) (Xa8 x)
noncomputable def zd2:Sum:=ca7 cE0 (λx=>.guard (vc9 x) (.ret ((one (r1L tP)).enc (vc8 x),[])))
theorem hd7:e7 prog G 98 zd2:=Ta0 (bd b98 Yc9) (one (r1L tP)) (o:=Xa8) λx=>A7 (by kernel_rfl)
structure Ce1 where
 is1:Int
structure Ce2 where
 ph:Nat
 is7:Int
 fc0:List Int
 i5:Int
 ns6:Nat
 eh1:List (List a7)
noncomputable def Zb5:List (Nat×Sum):=[(70,Uc9),(157,tc4),(158,Lb4),(159,pd0)]
theorem zd3:g9 prog G Zb5:=⟨Jd6,ed6,Wb8,Yd9,trivial⟩
structure ia3 where
 b9:List Pln
 S7:List Pt
 is5:Int
 Y2:List Pln
structure O5 where
 ph:Nat
 (is6 is7:Int)
noncomputable def Zb6(p:ia3)(s:O5):St:=⟨eL tP p.b9::.unk::.unk::eL tX p.S7::.v (.slice none 0 0)::i p.is5::i s.is6::i s.is7::ra 38 [],[]⟩
noncomputable def Zb7(p:ia3)(s:O5):St:=⟨eL tP p.b9::.unk::.unk::eL tX p.S7::eL tP p.Y2::i p.is5::i s.is6::i s.is7::ra 38 [],[]⟩
noncomputable def hd8(p:ia3)(s:O5):St:=(sel (Nat.beq s.ph 1) (Zb7 p s) (Zb6 p s))
noncomputable def la0{α:Type}(k:O5->α)(e:Nat->α)(z:α)(p:ia3)(s:O5):α:=let t1:=(Ra5 (gL tP p.b9 p.is5.toNat) (gL tX p.S7 s.is7.toNat));(sl (decide (s.is7<(↑(List.length p.S7):Int))) (sl (inB p.is5 (List.length p.b9)) (sl (inB s.is7 (List.length p.S7)) (sl (t1==0) (k ⟨0,W (s.is6+1),W (s.is7+1)⟩) (k ⟨0,s.is6,W (s.is7+1)⟩)) z) z) (e 1))
noncomputable def la1{α:Type}(k:O5->α)(e:Nat->α)(z:α)(p:ia3)(s:O5):α:=let t1:=(Ra5 (gL tP p.b9 p.is5.toNat) (gL tX p.S7 s.is7.toNat));(sl (decide (s.is7<(↑(List.length p.S7):Int))) (sl (inB p.is5 (List.length p.b9)) (sl (inB s.is7 (List.length p.S7)) (sl (t1==0) (k ⟨1,W (s.is6+1),W (s.is7+1)⟩) (k ⟨1,s.is6,W (s.is7+1)⟩)) z) z) (e 2))
noncomputable def Pa5(p:ia3)(s:O5):Stp O5:=(sel (Nat.beq s.ph 1) (la1 .next .exit .fail p s) (la0 .next .exit .fail p s))
noncomputable def Ob9:Lo ia3 O5:=⟨En Zb5,0,ye2,[1,1,1,1,0,1,4,4,1,0,4,1,0,1,4,4],[0,3,4,5,6,7],.p,[⟨sLq tP::sUq::sUq::sLq tX::.s (.o .nil)::sIq::sIq::sIq::ru2 38 [],[],λa H=>(⟨aLq tP a 0,aLq tX a 3,aIq a 5,[]⟩,⟨0,aIq a 6,aIq a 7⟩)⟩,⟨sLq tP::sUq::sUq::sLq tX::sLq tP::sIq::sIq::sIq::ru2 38 [],[],λa H=>(⟨aLq tP a 0,aLq tX a 3,aIq a 5,aLq tP a 4⟩,⟨1,aIq a 6,aIq a 7⟩)⟩],Pa5,[(some 2,λp s=>upq (Zb6 p s) [(19,i s.is7),(20,eL tX p.S7),(21,i (↑(List.length p.S7):Int)),(22,b (decide (s.is7<(↑(List.length p.S7):Int))))]),(some 2,λp s=>upq (Zb7 p s) [(19,i s.is7),(20,eL tX p.S7),(21,i (↑(List.length p.S7):Int)),(22,b (decide (s.is7<(↑(List.length p.S7):Int))))])],hd8⟩
theorem hd9:Ob9.Ok:=Lo.ok [] (by kernel_rfl) .nil rfl (.cons (λa H=>by kernel_rfl) (.cons (λa H=>by kernel_rfl) .nil)) λp s=>(.sel (Nat.beq s.ph 1) (.of @la1 (λF _ _ _ _ _=>by unfold la1;(repeat' apply l5 (f:=F))<;>rfl) (by kernel_rfl)) (.of @la0 (λF _ _ _ _ _=>by unfold la0;(repeat' apply l5 (f:=F))<;>rfl) (by kernel_rfl)))
structure qa0 where
structure J3 where
 ph:Nat
 b9:List Pln
 S7:List Pt
 is5:Int
 Y2:List Pln
noncomputable def Zb8(p:qa0)(s:J3):St:=⟨eL tP s.b9::.unk::.unk::eL tX s.S7::.v (.slice none 0 0)::i s.is5::ra 40 [],[]⟩
noncomputable def Zb9(p:qa0)(s:J3):St:=⟨eL tP s.b9::.unk::.unk::eL tX s.S7::eL tP s.Y2::i s.is5::ra 40 [],[]⟩
noncomputable def id1(p:qa0)(s:J3):St:=(sel (Nat.beq s.ph 1) (Zb9 p s) (Zb8 p s))
noncomputable def la2{α:Type}(k:J3->α)(e:Nat->α)(z:α)(p:qa0)(s:J3):α:=let t1:=(lp (Pa5 (⟨rt tP s.b9,rt tX s.S7,s.is5,[]⟩:ia3)) (⟨0,0,0⟩:O5));let t2:=(rb0 [] (gL tP (rt tP s.b9) s.is5.toNat));let t3:=(rb0 (rt tP []) (gL tP (rt tP s.b9) s.is5.toNat));(sl (decide (s.is5<(↑(List.length s.b9):Int))) (sl ((cnE tP s.b9)&&((cnE tX s.S7)&&true)) (sl (Nat.beq t1.1 1) (sl (decide (t1.2.is6>=3)) (sl (inB s.is5 (List.length (rt tP s.b9))) (sl (rb1 [] (gL tP (rt tP s.b9) s.is5.toNat)) (k ⟨1,rt tP s.b9,rt tX s.S7,W (s.is5+1),t2⟩) z) z) (k ⟨0,rt tP s.b9,rt tX s.S7,W (s.is5+1),[]⟩)) (sl (Nat.beq t1.1 2) (sl (decide (t1.2.is6>=3)) (sl (inB s.is5 (List.length (rt tP s.b9))) (sl (okE tP []) (sl (rb1 (rt tP []) (gL tP (rt tP s.b9) s.is5.toNat)) (k ⟨1,rt tP s.b9,rt tX s.S7,W (s.is5+1),t3⟩) z) z) z) (k ⟨1,rt tP s.b9,rt tX s.S7,W (s.is5+1),[]⟩)) z)) z) (e 1))
noncomputable def la3{α:Type}(k:J3->α)(e:Nat->α)(z:α)(p:qa0)(s:J3):α:=let t1:=(lp (Pa5 (⟨rt tP s.b9,rt tX s.S7,s.is5,rt tP s.Y2⟩:ia3)) (⟨1,0,0⟩:O5));let t2:=(rb0 [] (gL tP (rt tP s.b9) s.is5.toNat));let t3:=(rb0 (rt tP (rt tP s.Y2)) (gL tP (rt tP s.b9) s.is5.toNat));(sl (decide (s.is5<(↑(List.length s.b9):Int))) (sl ((cnE tP s.b9)&&((cnE tX s.S7)&&((cnE tP s.Y2)&&true))) (sl (Nat.beq t1.1 1) (sl (decide (t1.2.is6>=3)) (sl (inB s.is5 (List.length (rt tP s.b9))) (sl (rb1 [] (gL tP (rt tP s.b9) s.is5.toNat)) (k ⟨1,rt tP s.b9,rt tX s.S7,W (s.is5+1),t2⟩) z) z) (k ⟨0,rt tP s.b9,rt tX s.S7,W (s.is5+1),[]⟩)) (sl (Nat.beq t1.1 2) (sl (decide (t1.2.is6>=3)) (sl (inB s.is5 (List.length (rt tP s.b9))) (sl (okE tP (rt tP s.Y2)) (sl (rb1 (rt tP (rt tP s.Y2)) (gL tP (rt tP s.b9) s.is5.toNat)) (k ⟨1,rt tP s.b9,rt tX s.S7,W (s.is5+1),t3⟩) z) z) z) (k ⟨1,rt tP s.b9,rt tX s.S7,W (s.is5+1),rt tP s.Y2⟩)) z)) z) (e 2))
noncomputable def eb7(p:qa0)(s:J3):Stp J3:=(sel (Nat.beq s.ph 1) (la3 .next .exit .fail p s) (la2 .next .exit .fail p s))
noncomputable def Pb0:Lo qa0 J3:=⟨En Zb5,0,ye2,[1,1,1,1,0,1,4,4],[0,3,4,5],.s .p (.s (.b (.s .p (.s (.s .p (.b (.u Ob9.ls))) .p))) .p),[⟨sLq tP::sUq::sUq::sLq tX::.s (.o .nil)::sIq::ru2 40 [],[],λa H=>(⟨⟩,⟨0,aLq tP a 0,aLq tX a 3,aIq a 5,[]⟩)⟩,⟨sLq tP::sUq::sUq::sLq tX::sLq tP::sIq::ru2 40 [],[],λa H=>(⟨⟩,⟨1,aLq tP a 0,aLq tX a 3,aIq a 5,aLq tP a 4⟩)⟩],eb7,[(some 0,λp s=>upq (Zb8 p s) [(13,i s.is5),(14,eL tP s.b9),(15,i (↑(List.length s.b9):Int)),(16,b (decide (s.is5<(↑(List.length s.b9):Int))))]),(some 0,λp s=>upq (Zb9 p s) [(13,i s.is5),(14,eL tP s.b9),(15,i (↑(List.length s.b9):Int)),(16,b (decide (s.is5<(↑(List.length s.b9):Int))))])],id1⟩
theorem id3:Pb0.Ok:=Lo.ok [Ob9.pr] (by kernel_rfl) (.cons hd9 .nil) rfl (.cons (λa H=>by kernel_rfl) (.cons (λa H=>by kernel_rfl) .nil)) λp s=>(.sel (Nat.beq s.ph 1) (.of @la3 (λF _ _ _ _ _=>by unfold la3;(repeat' apply l5 (f:=F))<;>rfl) (by kernel_rfl)) (.of @la2 (λF _ _ _ _ _=>by unfold la2;(repeat' apply l5 (f:=F))<;>rfl) (by kernel_rfl)))
noncomputable def wb5(x:List Pln):Option (a7×List a8):=let t1:=(Mb0 (rt tP x));let t2:=(nb9 (rt tP x));let t3:=(lp (eb7 (⟨⟩:qa0)) (⟨0,rt tP x,rt tX t2,0,[]⟩:J3));(sl (okE tP x) (sl (Mb1 (rt tP x)) (sl (!t1) (some (.v (.slice none 0 0),[])) (sl (okE tP x) (sl (ob0 (rt tP x)) (sl ((cnE tP x)&&((cnE tX t2)&&true)) (sl (Nat.beq t3.1 1) (some (.v (.slice none 0 0),[])) (sl (Nat.beq t3.1 2) (some (eL tP t3.2.Y2,[])) none)) none) none) none)) none) none)
noncomputable def nc7(x:List Pln):List Pln:=Q5 (one (r1L tP)) (wb5 x)
noncomputable def nc8(x:List Pln):Bool:=okO (one (r1L tP)) (wb5 x)
noncomputable def Zc0:Sum:=ca7 (ba7 tP) (λx=>.guard (nc8 x) (.ret ((one (r1L tP)).enc (nc7 x),[])))
theorem Nd3:e7 prog G 101 Zc0:=Ta0 (bd vf8 zd3) (one (r1L tP)) (o:=wb5) λx=>Da7 (.s .p (.s .p (.s .p (.s .p (.s (.s .p (.b (.u Pb0.ls))) .p))))) [Pb0.pr] (by kernel_rfl) (.cons id3 .nil) (by kernel_rfl)
theorem Qe2(p q:Pln):ra2 p q=some (i (na2 p q),[]):=by
 have key:∃t s,lp (K7 ⟨p.n.x,p.n.y,p.n.z,p.b,q.n.x,q.n.y,q.n.z,q.b⟩) ⟨0⟩=(t,s)/\((t=1/\na2 p q=-1)\/(t=2/\na2 p q=1)\/(t=3/\na2 p q=0)):=by
  refine pa5 (step:=K7 ⟨p.n.x,p.n.y,p.n.z,p.b,q.n.x,q.n.y,q.n.z,q.b⟩) (mk:=λj (_:Unit)=>(⟨(j:Int)⟩:R8)) 4
   (λj _=>(1<=j->p.n.x=q.n.x)/\(2<=j->p.n.y=q.n.y)/\(3<=j->p.n.z=q.n.z)/\(4<=j->p.b=q.b))
   (λt s=>(t=1/\na2 p q=-1)\/(t=2/\na2 p q=1)\/(t=3/\na2 p q=0)) (by omega) (λj x hj hI=>?_) (λj x hj hI=>?_) 0 () ⟨by omega,by omega,by omega,by omega⟩
  ·have hn:=r8 hj (show 4<=4611686018427387904 by omega)
   simp only[K7,W4,Int.toNat_natCast,hn];have hlt:(j:Int)<4:=by omega
   have hin:=d9 hj;have g:∀x1 x2 x3 x4:Int,((Nat.ble ((0+(j*1))+1) 4)&&(Ka2 [CK.int .i64] (e8 [i x1,i x2,i x3,i x4] (0+(j*1)))))=true:=by
    intro x1 x2 x3 x4
    match j,hj with
    |0,_=>rfl
    |1,_=>rfl
    |2,_=>rfl
    |3,_=>rfl
   rw[btD hlt];simp only[hin,g,j5];obtain⟨i1,i2,i3,i4⟩:=hI
   match j,hj with
   |0,_ =>
    show Nx (sl (decide (p.n.x<q.n.x)) _ (sl (decide (p.n.x>q.n.x)) _ _)) _ _;refine Nx.sl (λh=>.ex ?_) λh=>Nx.sl (λh'=>.ex ?_) λh'=>.nx ⟨(),rfl,?_⟩<;>simp only[decide_eq_true_eq,decide_eq_false_iff_not] at h
    ·left;exact⟨rfl,by simp[na2,vb9,h]⟩
    ·right;left;simp only[decide_eq_true_eq] at h';exact⟨rfl,by simp[na2,vb9,h,h']⟩
    ·simp only[decide_eq_false_iff_not] at h';exact⟨by omega,by omega,by omega,by omega⟩
   |1,_ =>
    have j1:=i1 (by omega)
    show Nx (sl (decide (p.n.y<q.n.y)) _ (sl (decide (p.n.y>q.n.y)) _ _)) _ _;refine Nx.sl (λh=>.ex ?_) λh=>Nx.sl (λh'=>.ex ?_) λh'=>.nx ⟨(),rfl,?_⟩<;>simp only[decide_eq_true_eq,decide_eq_false_iff_not] at h
    ·left;exact⟨rfl,by simp[na2,vb9,h,j1]⟩
    ·right;left;simp only[decide_eq_true_eq] at h';exact⟨rfl,by simp[na2,vb9,h,h',j1]⟩
    ·simp only[decide_eq_false_iff_not] at h';exact⟨λ_=>j1,by omega,by omega,by omega⟩
   |2,_ =>
    have j1:=i1 (by omega);have j2:=i2 (by omega)
    show Nx (sl (decide (p.n.z<q.n.z)) _ (sl (decide (p.n.z>q.n.z)) _ _)) _ _;refine Nx.sl (λh=>.ex ?_) λh=>Nx.sl (λh'=>.ex ?_) λh'=>.nx ⟨(),rfl,?_⟩<;>simp only[decide_eq_true_eq,decide_eq_false_iff_not] at h
    ·left;exact⟨rfl,by simp[na2,vb9,h,j1,j2]⟩
    ·right;left;simp only[decide_eq_true_eq] at h';exact⟨rfl,by simp[na2,vb9,h,h',j1,j2]⟩
    ·simp only[decide_eq_false_iff_not] at h';exact⟨λ_=>j1,λ_=>j2,by omega,by omega⟩
   |3,_ =>
    have j1:=i1 (by omega);have j2:=i2 (by omega);have j3:=i3 (by omega)
    show Nx (sl (decide (p.b<q.b)) _ (sl (decide (p.b>q.b)) _ _)) _ _;refine Nx.sl (λh=>.ex ?_) λh=>Nx.sl (λh'=>.ex ?_) λh'=>.nx ⟨(),rfl,?_⟩<;>simp only[decide_eq_true_eq,decide_eq_false_iff_not] at h
    ·left;exact⟨rfl,by simp[na2,vb9,h,j1,j2,j3]⟩
    ·right;left;simp only[decide_eq_true_eq] at h';exact⟨rfl,by simp[na2,vb9,h,h',j1,j2,j3]⟩
    ·simp only[decide_eq_false_iff_not] at h';exact⟨λ_=>j1,λ_=>j2,λ_=>j3,by omega⟩
  ·simp only[K7,W4];rw[bfD (by omega)]
   obtain⟨i1,i2,i3,i4⟩:=hI;have j1:=i1 (by omega);have j2:=i2 (by omega);have j3:=i3 (by omega);have j4:=i4 (by omega)
   exact⟨_,rfl,.inr (.inr ⟨rfl,by simp[na2,vb9,j1,j2,j3,j4]⟩)⟩
 obtain⟨t,s,h1,h2⟩:=key;unfold ra2
 simp only
 rw[h1]
 rcases h2 with⟨rfl,e⟩|⟨rfl,e⟩|⟨rfl,e⟩<;>rw[e]<;>rfl
theorem ff8(p q:Pln):Oa4 p q=na2 p q:=by unfold Oa4;rw[Qe2];rfl
def atP(x:List Pln)(y:Pln):Nat:=x.findIdx λp=>!decide (na2 p y<0)
noncomputable def ins(x:List Pln)(y:Pln):List Pln:=if (atP x y<x.length/\eqP (gL tP x (atP x y)) y=true) then x else Md5 x y (atP x y)
theorem Zc1(x:List Pln)(y:Pln)(hx:x.length<=1000000):Rd (one (r1L tP)) (Ib1 x y) (λr=>r=ins x y):=by
 have h:=Ua7 (step:=Ja7 ⟨x,y.n.x,y.n.y,y.n.z,y.b⟩) (mk:=λj=>(⟨(j:Int)⟩:pa9)) (c:=λp=>!decide (na2 p y<0)) (u:=1) (fin:=2) tP x (by omega)
  (λj hj=>by
   simp only[Ja7,Pa3,Int.toNat_natCast,ff2,ff8,r8 hj (show x.length<=4611686018427387904 by omega)]
   rw[btD (l0 hj),bt (d9 hj),j5];show sl (decide (na2 (gL tP x j) y<0)) _ _=_;cases decide (na2 (gL tP x j) y<0)<;>rfl)
  (by simp only[Ja7,Pa3];rw[bfD (D7 (Qjaf _))]) 0 (Qjar _)
 rw[Qjap] at h;have key:∃t,lp (Ja7 ⟨x,y.n.x,y.n.y,y.n.z,y.b⟩) ⟨0⟩=(t,⟨((atP x y:Nat):Int)⟩)/\(t=1\/t=2):=by
  rw[show (⟨0⟩:pa9)=⟨((0:Nat):Int)⟩ from rfl,h]
  split
  ·exact⟨1,by rw[Qjl];rfl,.inl rfl⟩
  ·rename_i hn;refine⟨2,?_,.inr rfl⟩
   have:atP x y=x.length:=by
    unfold atP;rw[List.findIdx_eq_length];intro p hp;cases hb:(!decide (na2 p y<0)) with
    |false=>rfl
    |true=>exact absurd (Qjy.2 ⟨p,hp,hb⟩) hn
   rw[this]
 obtain⟨t,h1,h2⟩:=key;have h3:atP x y<=x.length:=List.findIdx_le_length;have hdef:ins x y=if (atP x y<x.length/\eqP (gL tP x (atP x y)) y=true) then x else Md5 x y (atP x y):=rfl
 generalize atP x y=n at *
 have hlo:inB (n:Int) (x.length+1)=true:=d9 (by omega)
 have hd:(bL tP (x.take n)).length=n:=by rw[<- l9,qa8,Qjf];omega
 have hlen:(Md5 x y n).length=x.length+1:=by unfold Md5;simp only[Qjj,List.length_cons,Qjf,Qjah];omega
 have lt:len (bL tP (x.take n))=n:=by rw[l9];exact hd
 have ld:len (bL tP (x.drop n))=x.length-n:=by rw[qa8,Qjah]
 have b1:(Nat.beq 1 1&&Nat.ble ((1+(x.length-n))*32) room)=true:=by rw[Ua6 (by omega)];rfl
 have b2:(Nat.beq 0 0&&Nat.ble ((0+n)*32) room)=true:=by rw[Ua6 (by omega)];rfl
 have e0:app [] (bL tP (x.take n))=bL tP (x.take n):=rfl;have b3:(Nat.beq (0+n) n&&Nat.ble (((0+n)+1)*32) room)=true:=by rw[Ua6 (by omega),Qjl,Nat.beq_refl];rfl
 have l3:len (bL tP (x.take n++[y]))=n+1:=by rw[qa8,Qjj,Qjf];simp only[List.length_singleton];omega
 have b4:(Nat.beq ((0+n)+1) (n+1)&&Nat.ble ((((0+n)+1)+(x.length-n))*32) room)=true:=by rw[Ua6 (by omega),Qjl,Nat.beq_refl];rfl
 have z0:∀{k:Nat},Nat.beq k 0=true->k=0:=λ{k} h=>Nat.eq_of_beq_eq_true h
 have fin:ins x y=Md5 x y n->∀m r,m=x.length+1->r=bL tP (Md5 x y n)->Rd (one (r1L tP)) (some (.sl 0 0 m 0,[⟨73,4,r,true,false,0⟩])) (λr=>r=ins x y) :=
  λhq m r hm hr=>ff3 (by rw[hlen];exact hm) hr hq.symm
 have tail:ins x y=Md5 x y n->Rd (one (r1L tP)) (some (.sl 0 0 (((0+n)+1)+(x.length-n)) 0,[⟨73,4,app (bL tP (x.take n++[y])) (bL tP (x.drop n)),true,false,0⟩])) (λr=>r=ins x y):=λhq=>by
  refine fin hq _ _ (by omega) ?_
  rw[bb0];unfold Md5;rw[Qjac];rfl
 unfold Ib1;simp only[i8,n9];rw[h1];simp only[Int.toNat_natCast,Yd2 x n h3,Yd3,lt,ld,b1,b2,e0,b3,Be3,l3,b4,hlo,j5];have main:Rd (one (r1L tP)) (sl (decide ((n:Int)<(x.length:Int))) (sl (inB (n:Int) x.length) (sl (((gL tP x n).n.x==y.n.x)&&(((gL tP x n).n.y==y.n.y)&&(((gL tP x n).n.z==y.n.z)&&(((gL tP x n).b==y.b)&&true)))) (some (eL tP x,[])) (some (.sl 0 0 (((0+n)+1)+(x.length-n)) 0,[⟨73,4,app (bL tP (x.take n++[y])) (bL tP (x.drop n)),true,false,0⟩]))) none) (some (.sl 0 0 (((0+n)+1)+(x.length-n)) 0,[⟨73,4,app (bL tP (x.take n++[y])) (bL tP (x.drop n)),true,false,0⟩]))) (λr=>r=ins x y):=by
  by_cases hn:n<x.length
  ·rw[btD (l0 hn),bt (d9 hn)];exact Rd.sl (λq=>⟨_,x,rfl,od4 tP x,by rw[hdef,if_pos ⟨hn,q⟩]⟩) λq=>tail (by
    rw[hdef,if_neg λh=>?_]
    have h:=h.2;rw[show eqP (gL tP x n) y=false from q] at h
    cases h)
  ·rw[bfD (D7 hn)];exact tail (by rw[hdef,if_neg λh=>hn h.1])
 rcases h2 with rfl|rfl
 ·exact main
 ·exact main
def wc0(l:List Pln):Prop:=l.Pairwise LtP
theorem Dc2{x y z:Pln}(h1:LtP x y)(h2:LtP y z):LtP x z:=by unfold LtP at *;omega
theorem Oc2(x:Pln):¬ LtP x x:=by unfold LtP;omega
theorem fe6(x y:Pln):LtP x y\/x=y\/LtP y x:=by
 by_cases h1:LtP x y
 ·exact .inl h1
 ·by_cases h2:LtP y x
  ·exact .inr (.inr h2)
  ·refine .inr (.inl ?_);unfold LtP at h1 h2;have e1:x.n.x=y.n.x:=by omega
   have e2:x.n.y=y.n.y:=by omega
   have e3:x.n.z=y.n.z:=by omega
   have e4:x.b=y.b:=by omega
   cases x with | mk n b=>cases y with | mk m c=>cases n;cases m;simp_all
theorem pd1:∀{l r:List Pln},wc0 l->wc0 r->(∀p,p∈l↔p∈r)->l=r
 |[],[],_,_,_=>rfl
 |[],b::r,_,_,h=>by have:=(h b).2 Qji;cases this
 |a::l,[],_,_,h=>by have:=(h a).1 Qji;cases this
 |a::l,b::r,hl,hr,h=>by
  obtain⟨hl1,hl2⟩:=Qjm.1 hl;obtain⟨hr1,hr2⟩:=Qjm.1 hr;have hab:a=b:=by
   rcases Qja.1 ((h a).1 Qji) with e|h1
   ·exact e
   ·rcases Qja.1 ((h b).2 Qji) with e|h2
    ·exact e.symm
    ·exact absurd (Dc2 (hr1 a h1) (hl1 b h2)) (Oc2 b)
  subst hab;rw[pd1 hl2 hr2 λp=>?_]
  constructor
  ·intro hp
   rcases Qja.1 ((h p).1 (Qjg _ hp)) with e|h1
   ·subst e;exact absurd (hl1 p hp) (Oc2 p)
   ·exact h1
  ·intro hp
   rcases Qja.1 ((h p).2 (Qjg _ hp)) with e|h1
   ·subst e;exact absurd (hr1 p hp) (Oc2 p)
   ·exact h1
def Sb6:List Pln->Pln->List Pln
 |[],y=>[y]
 |a::l,y=>if na2 a y<0 then a::Sb6 l y else if eqP a y then a::l else y::a::l
theorem Ce3(y:Pln):∀x,ins x y=Sb6 x y
 |[]=>rfl
 |a::l=>by
  have ih:=Ce3 y l;unfold Sb6;by_cases h:na2 a y<0
  ·rw[if_pos h,<- ih];have e:atP (a::l) y=atP l y+1:=by unfold atP;rw[Qjav];simp[h]
   unfold ins;rw[e];have e2:gL tP (a::l) (atP l y+1)=gL tP l (atP l y):=rfl;rw[e2];simp only[List.length_cons,Nat.add_lt_add_iff_right];split
   ·rfl
   ·rfl
  ·rw[if_neg h];have e:atP (a::l) y=0:=by unfold atP;rw[Qjav];simp[h]
   unfold ins;rw[e];have e2:gL tP (a::l) 0=a:=rfl;rw[e2];simp only[List.length_cons,Nat.zero_lt_succ,true_and];split
   ·rfl
   ·rfl
theorem wc1(y p:Pln):∀x,p∈Sb6 x y↔p=y\/p∈x
 |[]=>by simp[Sb6]
 |a::l=>by
  unfold Sb6;have ih:=wc1 y p l;split
  ·simp only[Qja,ih];constructor
   ·rintro (h|h|h)
    ·exact .inr (.inl h)
    ·exact .inl h
    ·exact .inr (.inr h)
   ·rintro (h|h|h)
    ·exact .inr (.inl h)
    ·exact .inl h
    ·exact .inr (.inr h)
  ·split
   ·rename_i h;rw[Bb2] at h;subst h;simp only[Qja];constructor
    ·exact λh=>.inr h
    ·rintro (h|h)
     ·exact .inl h
     ·exact h
   ·simp only[Qja]
theorem Nd4(y:Pln):∀{x},wc0 x->wc0 (Sb6 x y)
 |[],_=>Qju _ _
 |a::l,h=>by
  obtain⟨h1,h2⟩:=Qjm.1 h;unfold Sb6;split
  ·rename_i hc;rw[yd3] at hc;refine Qjm.2 ⟨λp hp=>?_,Nd4 y h2⟩
   rcases (wc1 y p l).1 hp with e|hp
   ·subst e;exact hc
   ·exact h1 p hp
  ·rename_i hc;rw[yd3] at hc;split
   ·exact h
   ·rename_i hne;have hlt:LtP y a:=by
     rcases fe6 y a with h|h|h
     ·exact h
     ·exact absurd ((Bb2 _ _).2 h.symm) hne
     ·exact absurd h hc
    refine Qjm.2 ⟨λp hp=>?_,h⟩
    rcases Qja.1 hp with e|hp
    ·subst e;exact hlt
    ·exact Dc2 hlt (h1 p hp)
theorem zd4{σ:Type}{step:σ->Stp σ}{s:σ}{t:Nat}(h:step s=.exit t):lp step s=(t,s):=by rw[te9];exact Sc4 h
theorem pd2:Sa8 []=[]:=Qjao (ec5 [])
theorem Nd5:lean []=[]:=by
 unfold lean;rw[Yd8,if_pos rfl,List.filter_nil,pd2];rfl
theorem Bf9(X:List Pt):W9 ⟨X⟩=⟨1,X⟩:=by
 unfold W9 G1 na4 J0;simp only[i8,n9];rw[zd4 (step:=fa4 ⟨X⟩) (s:=⟨⟩) (t:=1) rfl];rfl
theorem rf6:ca4 ⟨⟩=⟨1⟩:=by
 have h1:F9 ⟨⟩=⟨1⟩:=by
  unfold F9 r6
  simp only
  rw[zd4 (step:=M7 ⟨⟩) (s:=⟨⟩) (t:=1) rfl];rfl
 have h2:O4 ⟨⟩=⟨1⟩:=by
  unfold O4 A6
  simp only
  rw[zd4 (step:=K3 ⟨⟩) (s:=⟨⟩) (t:=1) (by
   unfold K3 J2;simp only[h1]
   rfl)]
  rfl
 unfold ca4 K8;simp only[h2];rfl
theorem Nd6(x:Unit):Xa7 x=some (.v (.slice none 0 0),[]):=by
 have hn:([]:List Pln).length<=1000000000:=by simp
 unfold Xa7;simp only[i8,n9,nc2 hn,nc3 hn,Yb7 hn,Yb8 hn,Yd8,Bf9,rf6];rfl
theorem Nd7(x:Addr×Nat):Rd (one (r1L tP)) (Xa8 x) (λr=>r=[]):=by
 have hn:([]:List Pln).length<=1000000000:=by simp
 have hX:=uc9 [];obtain⟨m,r,e1,e2,e3,e4⟩:=od9 [] (pts []) hn (by omega)
 have hr:r=[]:=Qjao (by simpa using e4)
 subst hr;have hm:m=0:=by simpa using e2
 subst hm;obtain⟨m2,r2,k1,k2,k3⟩:=Yc5 [] 0 (by simp) hn
 have e1:I8 ⟨0,[],pts []⟩=_:=e1;unfold Xa8;simp only[i8,n9,nc2 hn,nc3 hn,Yb7 hn,Yb8 hn,Yd8,e1];have hs:app (bL tP (Sa8 (slR tP (bL tP []) 0 0))) (e8 (bL tP []) 0)=bL tP []:=by
  rw[show slR tP (bL tP []) 0 0=[] from rfl,pd2];rfl
 rw[hs,k1];have hfin:r2.take m2=[]:=by rw[k3];rfl
 exact Be4 (P:=λr=>r=[]) k2 rfl hfin
noncomputable def O6(l:List Pln):List Pln:=lean l
noncomputable def r4(l:List Pln):Bool:=decide (l.length<=1000000)
noncomputable def Pb1:Sum:=ca7 (ba7 tP) λl=>.guard (r4 l) (.ret ((one (r1L tP)).enc (O6 l),[]))
theorem jc3:e7 prog G 98 Pb1:=by
 refine ff7 (zd0 yd5 λa r hr=>?_) (zd0 hd5 λa r hr=>?_) (zd0 hd7 λa r hr=>?_)
 ·obtain⟨p,c⟩:=a;obtain⟨hg,hr⟩:=DT.run_guard_some hr;have hl:c.length<=1000000:=by
   have:=of_decide_eq_true hg
   simp only[List.length_cons] at this;omega
  rw[ff4 p c hl,ff5 p c hl];exact hr
 ·obtain⟨hg,hr⟩:=DT.run_guard_some hr;have e:Ob5 a=lean []:=by unfold Ob5;rw[Nd6,Nd5];exact na8 _ rfl
  have e2:Ob6 a=true:=by unfold Ob6;rw[Nd6];exact za9 (r:=[]) _ rfl
  rw[e,e2];exact hr
 ·obtain⟨hg,hr⟩:=DT.run_guard_some hr;have e:vc8 a=lean []:=by rw[Nd5];exact (Nd7 a).p
  rw[e,show vc9 a=true from (Nd7 a).g]
  exact hr
theorem Qe3(l:List Pln){n:Nat}(h:n=l.length):okS tP (bL tP l) 0 n=true:=by subst h;exact zc7 tP l
theorem Qe4(l:List Pln){n:Nat}(h:n=l.length):slR tP (bL tP l) 0 n=l:=by subst h;exact zc6 tP l
end Go.Ev.Ce
namespace Go.Ev.Ce
def rmZ(p:Pln)(x:Pt):Int:=p.b*x.pw-(p.n.x*x.px+p.n.y*x.py+p.n.z*x.pz)
structure Inr(r:List Pln)(x:Pt):Prop where
 w:0<x.pw
 h:∀p∈r,0<=rmZ p x
def U1(p:Pln):Pln:=⟨⟨-p.n.x,-p.n.y,-p.n.z⟩,-p.b⟩
theorem qa1(p:Pln)(x:Pt):rmZ (U1 p) x=-rmZ p x:=by unfold rmZ U1;grind
structure Cn(r:List Pln)(x:Pt):Prop extends Inr r x where
 c:∃p q s,p∈r/\q∈r/\s∈r/\mw p q s≠0/\rmZ p x=0/\rmZ q x=0/\rmZ s x=0
def Bdd(r:List Pln):Prop:=∀d:V3,d≠⟨0,0,0⟩->∃p∈r,0<dot p.n d
def go(x:Pt)(q:Pln)(d:V3):Pt:=⟨x.px*dot q.n d+rmZ q x*d.x,x.py*dot q.n d+rmZ q x*d.y,x.pz*dot q.n d+rmZ q x*d.z,x.pw*dot q.n d⟩
theorem Nd8(p q:Pln)(x:Pt)(d:V3):rmZ p (go x q d)=dot q.n d*rmZ p x-rmZ q x*dot p.n d:=by simp only[rmZ,go,dot];grind
theorem eb8{a b c:Int}(hc:0<c)(h:a*c<=b*c):a<=b:=Int.le_of_mul_le_mul_right h hc
theorem first(x:Pt)(d:V3):∀r:List Pln,(∀p∈r,0<=rmZ p x)->(∃p∈r,0<dot p.n d)->∃q∈r,0<dot q.n d/\∀p∈r,0<dot p.n d->rmZ q x*dot p.n d<=rmZ p x*dot q.n d
 |[],_,h=>by obtain⟨p,hp,_⟩:=h;cases hp
 |a::r,hx,h=>by
  by_cases hr:∃p∈r,0<dot p.n d
  ·obtain⟨q,hq,h1,h2⟩:=first x d r (λp hp=>hx p (Qjg _ hp)) hr
   by_cases ha:0<dot a.n d
   ·by_cases hc:rmZ q x*dot a.n d<=rmZ a x*dot q.n d
    ·refine⟨q,Qjg _ hq,h1,λp hp h3=>?_⟩
     rcases Qja.1 hp with rfl|hp
     ·exact hc
     ·exact h2 p hp h3
    ·refine⟨a,Qji,ha,λp hp h3=>?_⟩
     rcases Qja.1 hp with rfl|hp
     ·exact Qjbc _
     ·have h4:=h2 p hp h3;have h5:rmZ a x*dot q.n d<rmZ q x*dot a.n d:=by omega
      have h6:=Qjw h4 (Qjh ha);have h7:=Int.mul_lt_mul_of_pos_right h5 h3;have e1:rmZ q x*dot p.n d*dot a.n d=rmZ q x*dot a.n d*dot p.n d:=by grind
      have e2:rmZ a x*dot q.n d*dot p.n d=rmZ a x*dot p.n d*dot q.n d:=by grind
      have e3:rmZ p x*dot q.n d*dot a.n d=rmZ p x*dot a.n d*dot q.n d:=by grind
      refine eb8 h1 ?_;omega
   ·refine⟨q,Qjg _ hq,h1,λp hp h3=>?_⟩
    rcases Qja.1 hp with rfl|hp
    ·exact absurd h3 ha
    ·exact h2 p hp h3
  ·have ha : 0 < dot a.n d := by
    obtain⟨p,hp,h3⟩:=h
    rcases Qja.1 hp with rfl|hp
    ·exact h3
    ·exact absurd ⟨p,hp,h3⟩ hr
   refine⟨a,Qji,ha,λp hp h3=>?_⟩
   rcases Qja.1 hp with rfl|hp
   ·exact Qjbc _
   ·exact absurd ⟨p,hp,h3⟩ hr
theorem step{r:List Pln}{x:Pt}(hx:Inr r x)(d:V3)(h:∃p∈r,0<dot p.n d):∃q∈r,0<dot q.n d/\Inr r (go x q d):=by
 obtain⟨q,hq,h1,h2⟩:=first x d r hx.h h;refine⟨q,hq,h1,⟨Qjo hx.w h1,λp hp=>?_⟩⟩
 rw[Nd8];have h3:=hx.h p hp;have h4:=hx.h q hq;by_cases h5:0<dot p.n d
 ·have:=h2 p hp h5
  have e:rmZ p x*dot q.n d=dot q.n d*rmZ p x:=Int.mul_comm _ _;omega
 ·have h6:=Qjk (Qjh h1) h3;have h7:rmZ q x*dot p.n d<=0:=Int.mul_nonpos_of_nonneg_of_nonpos h4 (by omega)
  omega
theorem Ce4{h q:Pln}{x:Pt}{d:V3}(h1:0<=rmZ q x)(h2:0<=dot h.n d):rmZ h (go x q d)*x.pw<=rmZ h x*(go x q d).pw\/x.pw<=0:=by
 rcases Int.lt_or_le 0 x.pw with hw|hw
 ·left;rw[Nd8]
  have:=Qjk h1 h2
  have h3:=Qjk this (Qjh hw);have e:rmZ h x*(go x q d).pw=dot q.n d*rmZ h x*x.pw:=by unfold go;grind
  have e2:(dot q.n d*rmZ h x-rmZ q x*dot h.n d)*x.pw=dot q.n d*rmZ h x*x.pw-rmZ q x*dot h.n d*x.pw:=by grind
  omega
 ·exact .inr hw
def neg(d:V3):V3:=⟨-d.x,-d.y,-d.z⟩
theorem fe7(a d:V3):dot a (neg d)=-dot a d:=by unfold dot neg;grind
theorem ff9{d:V3}(h:d≠⟨0,0,0⟩):neg d≠⟨0,0,0⟩:=λh'=>h (by
 cases d;unfold neg at h';simp only[V3.mk.injEq] at h' ⊢;omega)
theorem turn(h:Pln){d:V3}(hd:d≠⟨0,0,0⟩):∃e,e≠(⟨0,0,0⟩:V3)/\0<=dot h.n e/\∀a,dot a d=0->dot a e=0:=by
 by_cases h1:0<=dot h.n d
 ·exact⟨d,hd,h1,λ_ h=>h⟩
 ·exact⟨neg d,ff9 hd,by rw[fe7];omega,λa h=>by rw[fe7,h];rfl⟩
theorem gf0{n:V3}(hn:n≠⟨0,0,0⟩):∃d,d≠(⟨0,0,0⟩:V3)/\dot n d=0:=by
 by_cases h:n.x=0/\n.y=0
 ·exact⟨⟨1,0,0⟩,by simp,by unfold dot;simp[h.1]⟩
 ·refine⟨⟨n.y,-n.x,0⟩,λh'=>h ?_,by unfold dot;grind⟩
  simp only[V3.mk.injEq] at h';omega
theorem V3.ext'{a b:V3}(h1:a.x=b.x)(h2:a.y=b.y)(h3:a.z=b.z):a=b:=by cases a;cases b;simp_all
theorem Nd9{m n d:V3}(hm:m≠⟨0,0,0⟩)(h1:dot m d=0)(h2:dot n d≠0):k9 m n≠⟨0,0,0⟩:=λh=>by
 unfold k9 at h;simp only[V3.mk.injEq] at h;obtain⟨c1,c2,c3⟩:=h;unfold dot at h1 h2;have e1:m.x*(n.x*d.x+n.y*d.y+n.z*d.z)=0:=by grind
 have e2:m.y*(n.x*d.x+n.y*d.y+n.z*d.z)=0:=by grind
 have e3:m.z*(n.x*d.x+n.y*d.y+n.z*d.z)=0:=by grind
 have k:∀{a:Int},a*(n.x*d.x+n.y*d.y+n.z*d.z)=0->a=0:=λh=>(Qjp.1 h).resolve_right h2
 exact hm (V3.ext' (k e1) (k e2) (k e3))
theorem Hc6(a b:V3):dot a (k9 a b)=0:=by unfold dot k9;grind
theorem Hc7(a b:V3):dot b (k9 a b)=0:=by unfold dot k9;grind
theorem Ce5{p q:Pln}{x:Pt}{d:V3}(h:rmZ p x=0)(h':dot p.n d=0):rmZ p (go x q d)=0:=by rw[Nd8,h,h'];simp
theorem Ce6(q:Pln)(x:Pt)(d:V3):rmZ q (go x q d)=0:=by rw[Nd8];grind
theorem rf7{q:Pln}{d:V3}(h:0<dot q.n d):q.n≠⟨0,0,0⟩:=λh'=>by rw[h'] at h;unfold dot at h;simp at h
theorem Ze0{a b c u v w:Int}(hu:0<u)(hv:0<v)(hw:0<w)(h1:a*v<=b*u)(h2:b*w<=c*v):a*w<=c*u:=by
 have h3:=Qjw h1 (Qjh hw);have h4:=Qjw h2 (Qjh hu);have e1:a*v*w=a*w*v:=by grind
 have e2:b*u*w=b*w*u:=by grind
 have e3:c*v*u=c*u*v:=by grind
 exact eb8 hv (by omega)
theorem Ce7{r:List Pln}(hb:Bdd r)(h:Pln){x:Pt}(hx:Inr r x):∃v,Cn r v/\rmZ h v*x.pw<=rmZ h x*v.pw:=by
 obtain⟨d0,n0,p0,_⟩:=turn h (d:=⟨1,0,0⟩) (by simp)
 obtain⟨q1,m1,k1,i1⟩:=step hx d0 (hb d0 n0);have l1:=(Ce4 (h:=h) (x:=x) (hx.h q1 m1) p0).resolve_right (by have:=hx.w;omega)
 obtain⟨e1,ne1,he1⟩:=gf0 (rf7 k1);obtain⟨d1,n1,p1,z1⟩:=turn h ne1;obtain⟨q2,m2,k2,i2⟩:=step i1 d1 (hb d1 n1);have l2:=(Ce4 (h:=h) (x:=go x q1 d0) (i1.h q2 m2) p1).resolve_right (by have:=i1.w;omega)
 have hc:=Nd9 (rf7 k1) (z1 _ he1) (n:=q2.n) (by omega)
 obtain⟨d2,n2,p2,z2⟩:=turn h hc;obtain⟨q3,m3,k3,i3⟩:=step i2 d2 (hb d2 n2);have l3:=(Ce4 (h:=h) (x:=go (go x q1 d0) q2 d1) (i2.h q3 m3) p2).resolve_right (by have:=i2.w;omega)
 have a1:rmZ q1 (go (go x q1 d0) q2 d1)=0:=Ce5 (Ce6 _ _ _) (z1 _ he1);refine⟨_,⟨i3,q3,q1,q2,m3,m1,m2,λh0=>?_,Ce6 _ _ _,Ce5 a1 (z2 _ (Hc6 _ _)),Ce5 (Ce6 _ _ _) (z2 _ (Hc7 _ _))⟩,?_⟩
 ·have:dot q3.n d2=0:=z2 _ h0
  omega
 ·exact Ze0 i3.w i2.w hx.w l3 (Ze0 i2.w i1.w hx.w l2 l1)
theorem mb5{r:List Pln}(hb:Bdd r){h:Pln}(hv:∀v,Cn r v->0<=rmZ h v){x:Pt}(hx:Inr r x):0<=rmZ h x:=by
 obtain⟨v,h1,h2⟩:=Ce7 hb h hx;have h3:=Qjk (hv v h1) (Qjh hx.w);exact eb8 h1.w (by rw[Qjan];omega)
def mid(x y:Pt):Pt:=⟨x.px*y.pw+y.px*x.pw,x.py*y.pw+y.py*x.pw,x.pz*y.pw+y.pz*x.pw,2*(x.pw*y.pw)⟩
theorem Ce8(p:Pln)(x y:Pt):rmZ p (mid x y)=rmZ p x*y.pw+rmZ p y*x.pw:=by unfold rmZ mid;grind
theorem Inr.mid{r:List Pln}{x y:Pt}(hx:Inr r x)(hy:Inr r y):Inr r (mid x y):=⟨by unfold Ce.mid;exact Qjo (by decide) (Qjo hx.w hy.w),λp hp=>by
 rw[Ce8];exact Int.add_nonneg (Qjk (hx.h p hp) (Qjh hy.w)) (Qjk (hy.h p hp) (Qjh hx.w))⟩
def Od0(r:List Pln):Prop:=∃x:Pt,0<x.pw/\∀p∈r,0<rmZ p x
theorem fe8{r:List Pln}:∀(l:List Pln),(∀p∈l,p∈r)->(∃x,Inr r x)->(∀p∈l,∃v,Inr r v/\0<rmZ p v)->∃x,Inr r x/\∀p∈l,0<rmZ p x
 |[],_,h,_=>by obtain⟨x,h⟩:=h;exact⟨x,h,λp hp=>by cases hp⟩
 |a::l,hl,h,hv=>by
  obtain⟨x,h1,h2⟩:=fe8 l (λp hp=>hl p (Qjg _ hp)) h (λp hp=>hv p (Qjg _ hp))
  obtain⟨y,h3,h4⟩:=hv a Qji;refine⟨mid x y,h1.mid h3,λp hp=>?_⟩
  rw[Ce8]
  rcases Qja.1 hp with rfl|hp
  ·have:=Qjk (h1.h p (hl p Qji)) (Qjh h3.w)
   have:=Qjo h4 h1.w
   omega
  ·have:=Qjo (h2 p hp) h3.w
   have:=Qjk (h3.h p (hl p (Qjg _ hp))) (Qjh h1.w)
   omega
theorem Ce9{r:List Pln}(hb:Bdd r)(h0:r≠[]):Od0 r↔∀p∈r,∃v,Cn r v/\0<rmZ p v:=by
 constructor
 ·intro ⟨x,hw,hx⟩ p hp;by_cases h:∃v,Cn r v/\0<rmZ p v
  ·exact h
  ·have hx':Inr r x:=⟨hw,λq hq=>Qjh (hx q hq)⟩
   have:=mb5 hb (h:=U1 p) (λv hv=>by
    rw[qa1]
    have:¬ 0<rmZ p v:=λh'=>h ⟨v,hv,h'⟩
    omega) hx'
   rw[qa1] at this
   have:=hx p hp
   omega
 ·intro h;obtain⟨p,hp⟩:=List.exists_mem_of_ne_nil r h0;obtain⟨v,hv,_⟩:=h p hp;obtain⟨x,h1,h2⟩:=fe8 r (λ_ h=>h) ⟨v,hv.toInr⟩ λp hp=>by
   obtain⟨v,hv,h⟩:=h p hp;exact⟨v,hv.toInr,h⟩
  exact⟨x,h1.w,h2⟩
structure Eqv(x v:Pt):Prop where
 e1:x.px*v.pw=v.px*x.pw
 e2:x.py*v.pw=v.py*x.pw
 e3:x.pz*v.pw=v.pz*x.pw
theorem Eqv.rm{x v:Pt}(h:Eqv x v)(p:Pln):rmZ p x*v.pw=rmZ p v*x.pw:=by
 obtain⟨e1,e2,e3⟩:=h;unfold rmZ
 grind
theorem Eqv.inr{r:List Pln}{x v:Pt}(h:Eqv x v)(hw:0<x.pw)(hv:Inr r v):Inr r x:=⟨hw,λp hp=>by
 have:=h.rm p
 have h2:=Qjk (hv.h p hp) (Qjh hw);exact eb8 hv.w (by rw[Qjan];omega)⟩
end Go.Ev.Ce
namespace Go.Ev.Ce
open Go Go.Ev Go.Ev.L Go.Proofs
theorem Od1{p:Pln}{x:Pt}(hp:Bd p)(hx:Okx x):rm p x=rmZ p x:=by
 unfold rm rmZ;obtain⟨w1,w2,⟨a1,a2⟩,⟨a3,a4⟩,a5,a6⟩:=hx;have h0:=mb hp.b1 hp.b2 (show -600000000000<=x.pw by omega) w2
 have h1:=mb hp.x1 hp.x2 a1 a2;have h2:=mb hp.y1 hp.y2 a3 a4;have h3:=mb hp.z1 hp.z2 a5 a6;exact qa9 (by omega) (by omega)
theorem fe9{r:List Pln}(hb:Bds r){x:Pt}(hx:Okx x):inn r x=true↔Inr r x:=by
 unfold inn;rw[Qjt];constructor
 ·intro h;refine⟨hx.w1,λp hp=>?_⟩
  have:=h p hp
  rw[Od1 (hb p hp) hx] at this;simpa using this
 ·intro h p hp;rw[Od1 (hb p hp) hx];simpa using h.h p hp
theorem De0{p q s:Pln}(h:(mpt p q s).2=true):mw p q s≠0/\∃k:Int,k≠0/\k*(mpt p q s).1.px=(mv p q s).x/\k*(mpt p q s).1.py=(mv p q s).y/\k*(mpt p q s).1.pz=(mv p q s).z/\k*(mpt p q s).1.pw=mw p q s:=by
 unfold mpt at h ⊢;by_cases h0:mw p q s=0
 ·rw[if_pos h0] at h;cases h
 refine⟨h0,?_⟩;have hg:=Wc4 (v:=mv p q s) h0;have dv:∀{x:Int},(gc (mv p q s) (mw p q s))∣x->gc (mv p q s) (mw p q s)*Int.tdiv x (gc (mv p q s) (mw p q s))=x:=λh=>Int.mul_tdiv_cancel' h
 have d1:gc (mv p q s) (mw p q s)∣(mv p q s).x:=by
  rw[<- Qjaq];exact Qjv.2 (Qjau (Qjaj _ _) (Qjaj _ _))
 have d2:gc (mv p q s) (mw p q s)∣(mv p q s).y:=by
  rw[<- Qjaq];exact Qjv.2 (Qjau (Qjaj _ _) (Qjad _ _))
 have d3:gc (mv p q s) (mw p q s)∣(mv p q s).z:=by
  rw[<- Qjaq];exact Qjv.2 (Qjau (Qjad _ _) (Qjaj _ _))
 have d4:gc (mv p q s) (mw p q s)∣mw p q s:=by
  rw[<- Qjaq];exact Qjv.2 (Qjau (Qjad _ _) (Qjad _ _))
 rw[if_neg h0];by_cases h1:mw p q s<0
 ·rw[if_pos h1];have e:∀{x:Int},(gc (mv p q s) (mw p q s))∣x->-(gc (mv p q s) (mw p q s))*Int.tdiv (-x) (gc (mv p q s) (mw p q s))=x:=λ{x} h=>by
   rw[Int.neg_mul,dv ((Int.dvd_neg).2 h),Int.neg_neg]
  exact⟨-(gc (mv p q s) (mw p q s)),by omega,e d1,e d2,e d3,e d4⟩
 ·rw[if_neg h1];exact⟨gc (mv p q s) (mw p q s),by omega,dv d1,dv d2,dv d3,dv d4⟩
theorem De1{p q s:Pln}(h:(mpt p q s).2=true):rmZ p (mpt p q s).1=0/\rmZ q (mpt p q s).1=0/\rmZ s (mpt p q s).1=0:=by
 obtain⟨_,k,hk,e1,e2,e3,e4⟩:=De0 h;generalize (mpt p q s).1=x at *
 have f:∀a:Pln,a.b*mw p q s-(a.n.x*(mv p q s).x+a.n.y*(mv p q s).y+a.n.z*(mv p q s).z)=0->rmZ a x=0:=λa ha=>by
  rw[<- e1,<- e2,<- e3,<- e4] at ha
  have:k*rmZ a x=0:=by rw[<- ha];unfold rmZ;grind
  exact (Qjp.1 this).resolve_left hk
 refine⟨f p ?_,f q ?_,f s ?_⟩<;>(simp only[mw,mv,dot,k9];grind)
theorem Qe5{p q s:Pln}(h:mw p q s≠0):(mpt p q s).2=true:=by
 unfold mpt;rw[if_neg h]
 split<;>rfl
theorem De2{p q s:Pln}{x:Pt}(h1:rmZ p x=0)(h2:rmZ q x=0)(h3:rmZ s x=0):mw p q s*x.px=(mv p q s).x*x.pw/\mw p q s*x.py=(mv p q s).y*x.pw/\mw p q s*x.pz=(mv p q s).z*x.pw:=by
 have i1:(mv p q s).x*x.pw-mw p q s*x.px=(k9 q.n s.n).x*rmZ p x+(k9 s.n p.n).x*rmZ q x+(k9 p.n q.n).x*rmZ s x:=by simp only[mw,mv,dot,k9,rmZ];grind
 have i2:(mv p q s).y*x.pw-mw p q s*x.py=(k9 q.n s.n).y*rmZ p x+(k9 s.n p.n).y*rmZ q x+(k9 p.n q.n).y*rmZ s x:=by simp only[mw,mv,dot,k9,rmZ];grind
 have i3:(mv p q s).z*x.pw-mw p q s*x.pz=(k9 q.n s.n).z*rmZ p x+(k9 s.n p.n).z*rmZ q x+(k9 p.n q.n).z*rmZ s x:=by simp only[mw,mv,dot,k9,rmZ];grind
 rw[h1,h2,h3] at i1 i2 i3;simp only[Int.mul_zero,Int.add_zero] at i1 i2 i3;omega
theorem gf1{p q s:Pln}{x v:Pt}(h:mw p q s≠0)(h1:rmZ p x=0)(h2:rmZ q x=0)(h3:rmZ s x=0)(k1:rmZ p v=0)(k2:rmZ q v=0)(k3:rmZ s v=0):Eqv x v:=by
 obtain⟨a1,a2,a3⟩:=De2 h1 h2 h3;obtain⟨c1,c2,c3⟩:=De2 k1 k2 k3;have f:∀{a c m:Int},mw p q s*a=m*x.pw->mw p q s*c=m*v.pw->a*v.pw=c*x.pw:=λ{a c m} ha hc=>by
  have:mw p q s*(a*v.pw-c*x.pw)=0:=by grind
  have:=(Qjp.1 this).resolve_left h
  omega
 exact⟨f a1 c1,f a2 c2,f a3 c3⟩
theorem oe6{r:List Pln}{p q:Pln}{out:List Pt}{s:Pln}{x:Pt}(h:x∈out):x∈za8 r p q out s:=by
 unfold za8;split
 ·exact Qjb _ h
 ·exact h
theorem Zc2{r:List Pln}{p q:Pln}{x:Pt}:∀{l:List Pln} {out:List Pt},x∈out->x∈ib4 r p q l out
 |[],_,h=>h
 |s::l,out,h=>Zc2 (l:=l) (out:=za8 r p q out s) (oe6 h)
theorem wc2{r:List Pln}{p:Pln}{x:Pt}:∀{l:List Pln} {out:List Pt},x∈out->x∈Ta2 r p l out
 |[],_,h=>h
 |_::l,_,h=>wc2 (l:=l) (Zc2 h)
theorem Od2{r:List Pln}{x:Pt}:∀{l:List Pln} {out:List Pt},x∈out->x∈mc8 r l out
 |[],_,h=>h
 |_::l,_,h=>Od2 (l:=l) (wc2 h)
theorem oe7{r:List Pln}{p q:Pln}{out:List Pt}{s:Pln}(h1:(mpt p q s).2=true)(h2:inn r (mpt p q s).1=true):(mpt p q s).1∈za8 r p q out s:=by
 unfold za8;rw[h1,h2];cases h:Rb9 out (mpt p q s).1 with
 |true=>simpa using (ze4 _ _).1 h
 |false=>simp
theorem Zc3{r:List Pln}{p q s:Pln}(h1:(mpt p q s).2=true)(h2:inn r (mpt p q s).1=true):∀{l:List Pln} {out:List Pt},s∈l->(mpt p q s).1∈ib4 r p q l out
 |[],_,h=>by cases h
 |t::l,out,h=>by
  show _∈ib4 r p q l (za8 r p q out t)
  rcases Qja.1 h with rfl|h
  ·exact Zc2 (oe7 h1 h2)
  ·exact Zc3 h1 h2 h
structure Hit(r:List Pln)(Q:Pt->Prop)(p q s:Pln):Prop where
 h1:(mpt p q s).2=true
 h2:inn r (mpt p q s).1=true
 h3:Q (mpt p q s).1
theorem Od3{r:List Pln}{Q:Pt->Prop}{p q s:Pln}(hq:Hit r Q p q s)(hs:Hit r Q p s q)(hne:q≠s):∀{l:List Pln} {out:List Pt},q∈l->s∈l->∃x∈Ta2 r p l out,Q x
 |[],_,h,_=>by cases h
 |t::l,out,hql,hsl=>by
  show ∃x∈Ta2 r p l (ib4 r p t l out),Q x
  rcases Qja.1 hql with rfl|h1
  ·have h2:=(Qja.1 hsl).resolve_left λh=>hne h.symm
   exact⟨_,wc2 (Zc3 hq.h1 hq.h2 h2),hq.h3⟩
  ·rcases Qja.1 hsl with rfl|h2
   ·exact⟨_,wc2 (Zc3 hs.h1 hs.h2 h1),hs.h3⟩
   ·exact Od3 hq hs hne (l:=l) h1 h2
theorem Od4 {r : List Pln} {Q : Pt → Prop} {p q s : Pln} (H : ∀ a c d, (a = p ∨ a = q ∨ a = s) → (c = p ∨ c = q ∨ c = s) → (d = p ∨ d = q ∨ d = s) → a ≠ c → c ≠ d → a ≠ d → Hit r Q a c d) (h1 : p ≠ q) (h2 : q ≠ s) (h3 : p ≠ s) :
  ∀{l:List Pln} {out:List Pt},p∈l->q∈l->s∈l->∃x∈mc8 r l out,Q x
 |[],_,h,_,_=>by cases h
 |t::l,out,hp,hq,hs=>by
  have fin:∀{a c d:Pln} {out:List Pt},(a=p\/a=q\/a=s)->(c=p\/c=q\/c=s)->(d=p\/d=q\/d=s)->a≠c->c≠d->a≠d->c∈l->d∈l->∃x∈mc8 r l (Ta2 r a l out),Q x:=λha hc hd n1 n2 n3 m1 m2=>by
   obtain⟨x,hx,hQ⟩:=Od3 (H _ _ _ ha hc hd n1 n2 n3) (H _ _ _ ha hd hc n3 n2.symm n1) n2 (out:=_) m1 m2;exact⟨x,Od2 hx,hQ⟩
  show ∃x∈mc8 r l (Ta2 r t l out),Q x
  rcases Qja.1 hp with rfl|hp'
  ·exact fin (.inl rfl) (.inr (.inl rfl)) (.inr (.inr rfl)) h1 h2 h3 ((Qja.1 hq).resolve_left (Ne.symm h1)) ((Qja.1 hs).resolve_left (Ne.symm h3))
  ·rcases Qja.1 hq with rfl|hq'
   ·exact fin (.inr (.inl rfl)) (.inl rfl) (.inr (.inr rfl)) (Ne.symm h1) h3 h2 hp' ((Qja.1 hs).resolve_left (Ne.symm h2))
   ·rcases Qja.1 hs with rfl|hs'
    ·exact fin (.inr (.inr rfl)) (.inl rfl) (.inr (.inl rfl)) (Ne.symm h3) h1 (Ne.symm h2) hp' hq'
    ·exact Od4 H h1 h2 h3 hp' hq' hs'
theorem rf8{p q s:Pln}(h:mw p q s≠0):p≠q/\q≠s/\p≠s:=by
 refine⟨λe=>h ?_,λe=>h ?_,λe=>h ?_⟩<;>(subst e;simp only[mw,dot,k9];grind)
theorem Zd0{r:List Pln}(hb:Bds r):∀x∈cor r,Cn r x:=xd8 λp hp q hq s hs h hi=>by
 obtain⟨w1,w2,w3,w4,w5⟩:=Xd6 (hb p hp) (hb q hq) (hb s hs) h;obtain⟨e1,e2,e3⟩:=De1 h;exact⟨(fe9 hb ⟨w1,w5,w2,w3,w4⟩).1 hi,p,q,s,hp,hq,hs,(De0 h).1,e1,e2,e3⟩
theorem Zd1{r:List Pln}(hb:Bds r){v:Pt}(hv:Cn r v):∃x∈cor r,Eqv x v:=by
 obtain⟨p,q,s,hp,hq,hs,hw,e1,e2,e3⟩:=hv.c;obtain⟨n1,n2,n3⟩:=rf8 hw;refine Od4 (λa c d ha hc hd m1 m2 m3=>?_) n1 n2 n3 hp hq hs
 have hm:∀{a},(a=p\/a=q\/a=s)->a∈r/\rmZ a v=0:=λh=>by
  rcases h with rfl|rfl|rfl
  ·exact⟨hp,e1⟩
  ·exact⟨hq,e2⟩
  ·exact⟨hs,e3⟩
 have hw':mw a c d≠0:=by
  have k:mw a c d=mw p q s\/mw a c d=-mw p q s:=by
   rcases ha with rfl|rfl|rfl<;>rcases hc with rfl|rfl|rfl<;>rcases hd with rfl|rfl|rfl<;>first|exact absurd rfl m1|exact absurd rfl m2|exact absurd rfl m3|exact .inl rfl|(left;simp only[mw,dot,k9];grind;done)|(right;simp only[mw,dot,k9];grind;done)
  rcases k with k|k<;>omega
 have h:=Qe5 hw';obtain⟨w1,w2,w3,w4,w5⟩:=Xd6 (hb a (hm ha).1) (hb c (hm hc).1) (hb d (hm hd).1) h;obtain⟨f1,f2,f3⟩:=De1 h;have he:=gf1 hw' f1 f2 f3 (hm ha).2 (hm hc).2 (hm hd).2;exact⟨h,(fe9 hb ⟨w1,w5,w2,w3,w4⟩).2 (he.inr w1 hv.toInr),he⟩
theorem Dc3(c:List Pln):Bdd (c++ws):=λd hd=>by
 have k:∀{n:V3} {m:Int},(⟨n,m⟩:Pln)∈ws->0<dot n d->∃p∈c++ws,0<dot p.n d:=λh h'=>⟨_,Qjd _ h,h'⟩
 by_cases h1:0<d.x
 ·exact k (n:=⟨1,0,0⟩) (m:=24) (by simp[ws]) (by unfold dot;simp;omega)
 by_cases h2:d.x<0
 ·exact k (n:=⟨-1,0,0⟩) (m:=24) (by simp[ws]) (by unfold dot;simp;omega)
 by_cases h3:0<d.y
 ·exact k (n:=⟨0,1,0⟩) (m:=24) (by simp[ws]) (by unfold dot;simp;omega)
 by_cases h4:d.y<0
 ·exact k (n:=⟨0,-1,0⟩) (m:=24) (by simp[ws]) (by unfold dot;simp;omega)
 by_cases h5:0<d.z
 ·exact k (n:=⟨0,0,1⟩) (m:=24) (by simp[ws]) (by unfold dot;simp;omega)
 by_cases h6:d.z<0
 ·exact k (n:=⟨0,0,-1⟩) (m:=24) (by simp[ws]) (by unfold dot;simp;omega)
 exact absurd (V3.ext' (by show d.x=0;omega) (by show d.y=0;omega) (by show d.z=0;omega)) hd
theorem ge0{r:List Pln}(hb:Bds r){p:Pln}(hp:Bd p):pos (cor r) p=true↔∃v,Cn r v/\0<rmZ p v:=by
 unfold pos;rw[Qjy];constructor
 ·rintro⟨x,hx,h⟩;rw[Od1 hp (Nb9 hb x hx)] at h;exact⟨x,Zd0 hb x hx,by simpa using h⟩
 ·rintro⟨v,hv,h⟩;obtain⟨x,hx,he⟩:=Zd1 hb hv;refine⟨x,hx,?_⟩;rw[Od1 hp (Nb9 hb x hx)];have h1:=he.rm p;have h2:=Qjo h (Nb9 hb x hx).w1
  have:0<rmZ p x:=Int.lt_of_mul_lt_mul_right (by rw[Qjan];omega:0*v.pw<rmZ p x*v.pw) (Qjh hv.w)
  simpa using this
theorem Ib7{r:List Pln}(hb:Bds r)(hd:Bdd r)(h0:r≠[]):Kc4 r=true↔Od0 r:=by
 rw[Ce9 hd h0];unfold Kc4;rw[Qjt];exact⟨λh p hp=>(ge0 hb (hb p hp)).1 (h p hp),λh p hp=>(ge0 hb (hb p hp)).2 (h p hp)⟩
end Go.Ev.Ce
namespace Go.Ev.Ce
def dv(z v:Pt):V3:=⟨v.px*z.pw-z.px*v.pw,v.py*z.pw-z.py*v.pw,v.pz*z.pw-z.pz*v.pw⟩
def thr(n:V3)(z:Pt):Pln:=⟨⟨z.pw*n.x,z.pw*n.y,z.pw*n.z⟩,n.x*z.px+n.y*z.py+n.z*z.pz⟩
theorem De3(n:V3)(z x:Pt):rmZ (thr n z) x=-dot n (dv z x):=by simp only[rmZ,thr,dot,dv];grind
theorem De4{p:Pln}{z v:Pt}(hz:rmZ p z≠0)(hv:rmZ p v=0)(hw:0<v.pw):dv z v≠⟨0,0,0⟩:=λh=>by
 unfold dv at h;simp only[V3.mk.injEq] at h;obtain⟨e1,e2,e3⟩:=h
 have:rmZ p z*v.pw=rmZ p v*z.pw:=by unfold rmZ;grind
 rw[hv,Qjan] at this;exact (Qjp.1 this).elim hz (by omega)
theorem gf2{p:Pln}{z:Pt}(hz:rmZ p z≠0):∀l:List Pt,l.length<=2->(∀v∈l,rmZ p v=0/\0<v.pw)->∃n,n≠(⟨0,0,0⟩:V3)/\∀v∈l,dot n (dv z v)=0
 |[],_,_=>⟨⟨1,0,0⟩,by simp,λv h=>by cases h⟩
 |[v],_,h=>by
  obtain⟨h1,h2⟩:=h v (by simp)
  obtain⟨d,hd,he⟩:=gf0 (De4 hz h1 h2);exact⟨d,hd,λu hu=>by rw[Qje.1 hu,<- he];unfold dot;grind⟩
 |[v,u],_,h=>by
  obtain⟨h1,h2⟩:=h v (by simp)
  by_cases hc:k9 (dv z v) (dv z u)=⟨0,0,0⟩
  ·obtain⟨d,hd,he⟩:=gf0 (De4 hz h1 h2);have hu:dot (dv z u) d=0:=by
    by_cases h0:dot (dv z u) d=0
    ·exact h0
    ·exact absurd hc (Nd9 (De4 hz h1 h2) he h0)
   refine⟨d,hd,λx hx=>?_⟩
   simp only[Qja,Qjak,or_false] at hx
   rcases hx with rfl|rfl
   ·rw[<- he];unfold dot;grind
   ·rw[<- hu];unfold dot;grind
  ·refine⟨_,hc,λx hx=>?_⟩
   simp only[Qja,Qjak,or_false] at hx
   rcases hx with rfl|rfl
   ·rw[<- Hc6 (dv z x) (dv z u)];unfold dot;grind
   ·rw[<- Hc7 (dv z v) (dv z x)];unfold dot;grind
 |_::_::_::_,h,_=>by simp at h
def gf3(p:Pln)(z v:Pt):Pt:=⟨rmZ p v*z.px-rmZ p z*v.px,rmZ p v*z.py-rmZ p z*v.py,rmZ p v*z.pz-rmZ p z*v.pz,rmZ p v*z.pw-rmZ p z*v.pw⟩
theorem zd5(p q:Pln)(z v:Pt):rmZ q (gf3 p z v)=rmZ p v*rmZ q z-rmZ p z*rmZ q v:=by
 generalize ha:rmZ p v=a;generalize hb:rmZ p z=c;simp only[rmZ,gf3] at *
 rw[ha,hb]
 grind
theorem Qe6{r r':List Pln}(hs:∀p∈r',p∈r){v:Pt}(h:Cn r' v)(hi:Inr r v):Cn r v:=by
 obtain⟨p,q,s,hp,hq,hs',hw,e⟩:=h.c;exact⟨hi,p,q,s,hs p hp,hs q hq,hs s hs',hw,e⟩
theorem De5{r:List Pln}(hb:Bdd r)(hB:Od0 r){h:Pln}(hn:h.n≠⟨0,0,0⟩):¬ ∀x,Inr r x->rmZ h x=0:=λH=>by
 obtain⟨x,hw,hx⟩:=hB;have hi:Inr r x:=⟨hw,λp hp=>Qjh (hx p hp)⟩
 obtain⟨q,hq,h1,h2⟩:=step hi h.n (hb h.n hn);have h3:=H _ h2;rw[Nd8,H _ hi] at h3;have h4:=hx q hq;have h5:0<dot h.n h.n:=by
  have k:∀a:Int,a≠0->0<a*a:=λa ha=>by
   rcases Int.lt_or_gt_of_ne ha with h|h
   ·exact Qjay h h
   ·exact Qjo h h
  have k0:∀a:Int,0<=a*a:=λa=>by
   by_cases h:a=0
   ·subst h;decide
   ·exact Qjh (k a h)
  have a1:=k0 h.n.x;have a2:=k0 h.n.y;have a3:=k0 h.n.z;unfold dot;by_cases c1:h.n.x=0
  ·by_cases c2:h.n.y=0
   ·have:=k h.n.z (λc3=>hn (V3.ext' c1 c2 c3));omega
   ·have:=k _ c2;omega
  ·have:=k _ c1;omega
 have:=Qjo h4 h5
 omega
theorem rf9 {r r' : List Pln} {p : Pln} (hb : Bdd r) (hB : Od0 r) (hp : p ∈ r) (hr : ∀ q ∈ r, q ∈ r' ∨ q = p)
  (l:List Pt) (hl:l.length<=2) (hl0:∀v∈l,rmZ p v=0/\0<v.pw) (hc:∀v,Cn r v->rmZ p v=0->∃x∈l,Eqv x v) {z:Pt} (hz:Inr r' z):Inr r z:=by
 by_cases h0:0<=rmZ p z
 ·exact⟨hz.w,λq hq=>(hr q hq).elim (hz.h q) λe=>e ▸ h0⟩
 exfalso;have hneg:rmZ p z<0:=by omega
 obtain⟨n,hn,hv⟩:=gf2 (p:=p) (z:=z) (by omega) l hl hl0
 have hn':(thr n z).n≠⟨0,0,0⟩:=λe=>hn (by
  unfold thr at e;simp only[V3.mk.injEq] at e;have k:∀{a:Int},z.pw*a=0->a=0:=λh=>(Qjp.1 h).resolve_left (by have:=hz.w;omega)
  exact V3.ext' (k e.1) (k e.2.1) (k e.2.2))
 -- the face lies in that plane
 have hface:∀u,Inr r u->rmZ p u=0->rmZ (thr n z) u=0:=λu hu hu0=>by
  have hbd:Bdd (U1 p::r):=λd hd=>by
   obtain⟨q,hq,h⟩:=hb d hd;exact⟨q,Qjg _ hq,h⟩
  have hiu:Inr (U1 p::r) u:=⟨hu.w,λq hq=>by
   rcases Qja.1 hq with rfl|hq
   ·rw[qa1,hu0];decide
   ·exact hu.h q hq⟩
  have hvx:∀v,Cn (U1 p::r) v->rmZ (thr n z) v=0:=λv hcv=>by
   have hir:Inr r v:=⟨hcv.w,λq hq=>hcv.h q (Qjg _ hq)⟩
   have hp0:rmZ p v=0:=by
    have h1:=hcv.h (U1 p) Qji;rw[qa1] at h1;have h2:=hir.h p hp;omega
   obtain⟨a,c,d,ha,hc',hd,hw,e1,e2,e3⟩:=hcv.c
   -- a plane that is turned round gives the same Ce7
   have fl:∀{a c d:Pln},mw (U1 a) c d=-mw a c d/\mw c (U1 a) d=-mw c a d/\mw c d (U1 a)=-mw c d a:=λ{a c d}=>by
    refine⟨?_,?_,?_⟩<;>(simp only[mw,dot,k9,U1];grind)
   have hr0:∀{a:Pln},rmZ (U1 a) v=0->rmZ a v=0:=λh=>by rw[qa1] at h;omega
   have hcn:Cn r v:=by
    refine⟨hir,?_⟩
    rcases Qja.1 ha with rfl|ha<;>rcases Qja.1 hc' with rfl|hc'<;>rcases Qja.1 hd with rfl|hd
    ·exact absurd (by simp only[mw,dot,k9];grind) hw
    ·exact absurd (by simp only[mw,dot,k9];grind) hw
    ·exact absurd (by simp only[mw,dot,k9];grind) hw
    ·exact⟨p,c,d,hp,hc',hd,by have:=(fl (a:=p) (c:=c) (d:=d)).1;omega,hp0,e2,e3⟩
    ·exact absurd (by simp only[mw,dot,k9];grind) hw
    ·exact⟨a,p,d,ha,hp,hd,by have:=(fl (a:=p) (c:=a) (d:=d)).2.1;omega,e1,hp0,e3⟩
    ·exact⟨a,c,p,ha,hc',hp,by have:=(fl (a:=p) (c:=a) (d:=c)).2.2;omega,e1,e2,hp0⟩
    ·exact⟨a,c,d,ha,hc',hd,hw,e1,e2,e3⟩
   obtain⟨x,hx,he⟩:=hc v hcn hp0;have h1:=he.rm (thr n z);rw[De3 n z x,hv x hx] at h1;have h1:rmZ (thr n z) v*x.pw=0:=by omega
   exact (Qjp.1 h1).resolve_right (by have:=(hl0 x hx).2;omega)
  have a1:=mb5 hbd (h:=thr n z) (λv hv=>by rw[hvx v hv];decide) hiu
  have a2:=mb5 hbd (h:=U1 (thr n z)) (λv hv=>by rw[qa1,hvx v hv];decide) hiu
  rw[qa1] at a2;omega
 -- so do all vertices
 have hall:∀v,Inr r v->rmZ (thr n z) v=0:=λv hi=>by
  by_cases hv0:rmZ p v=0
  ·exact hface v hi hv0
  have hvp:0<rmZ p v:=by have:=hi.h p hp;omega
  have hu:Inr r (gf3 p z v):=by
   have w1:=Qjo hvp hz.w;have w2:rmZ p z*v.pw<0:=Int.mul_neg_of_neg_of_pos hneg hi.w;refine⟨by show 0<rmZ p v*z.pw-rmZ p z*v.pw;omega,λq hq=>?_⟩
   rw[zd5]
   rcases hr q hq with h|rfl
   ·have b1:=Qjk (Qjh hvp) (hz.h q h);have b2:rmZ p z*rmZ q v<=0:=Int.mul_nonpos_of_nonpos_of_nonneg (Qjh hneg) (hi.h q hq);omega
   ·have:=Int.mul_comm (rmZ q v) (rmZ q z);omega
  have h1:=hface _ hu (by rw[zd5];have:=Int.mul_comm (rmZ p v) (rmZ p z);omega)
  rw[zd5] at h1;have h2:rmZ (thr n z) z=0:=by rw[De3];simp only[dot,dv];grind
  rw[h2] at h1;have h1:rmZ p z*rmZ (thr n z) v=0:=by omega
  exact (Qjp.1 h1).resolve_left (by omega)
 exact De5 hb hB hn' hall
end Go.Ev.Ce
namespace Go.Ev.Ce
open Go Go.Ev Go.Ev.L Go.Proofs
theorem ge1(p:Pln):∀(a:Pln) (l:List Pln),p∈a::ddF a l↔p∈a::l
 |a,[]=>by simp[ddF]
 |a,x::l=>by
  have ih:=ge1 p x l;unfold ddF;split
  ·rename_i h;rw[Bb2] at h;subst h;rw[ih];simp
  ·simp only[Qja] at ih ⊢;rw[ih]
theorem De6(p:Pln):∀l:List Pln,p∈dd l↔p∈l
 |[]=>Iff.rfl
 |x::l=>ge1 p x l
theorem ge2:∀(a:Pln) (l:List Pln),(a::l).Pairwise (λx y=>(!ltOf na2 y x)=true)->wc0 (a::ddF a l)
 |a,[],_=>Qju _ _
 |a,x::l,h=>by
  obtain⟨h1,h2⟩:=Qjm.1 h;have ih:=ge2 x l h2;have hle:=h1 x Qji;rw[cb4] at hle;have hle:¬ LtP x a:=by simpa using hle
  unfold ddF;split
  ·rename_i he;rw[Bb2] at he;subst he;exact ih
  ·rename_i hne;have hlt:LtP a x:=by
    rcases fe6 a x with h|h|h
    ·exact h
    ·exact absurd ((Bb2 _ _).2 h.symm) hne
    ·exact absurd h hle
   refine Qjm.2 ⟨λp hp=>?_,ih⟩
   rcases Qja.1 hp with e|hp'
   ·subst e;exact hlt
   ·exact Dc2 hlt ((Qjm.1 ih).1 p hp')
theorem De7(l:List Pln):wc0 (dd (Sa8 l)):=by
 have h:=yd8 l;cases hs:Sa8 l with
 |nil=>exact .nil
 |cons a l'=>rw[hs] at h;exact ge2 a l' h
noncomputable def Ma1(X:List Pt)(out:List Pln)(p:Pln):List Pln:=if keep X p then Sb6 out p else out
theorem pd3(X:List Pt)(p:Pln):∀(c out:List Pln),p∈c.foldl (Ma1 X) out↔p∈out\/p∈c.filter (keep X)
 |[],out=>by simp
 |a::c,out=>by
  rw[List.foldl_cons,pd3 X p c,Qjz];unfold Ma1;split
  ·rw[wc1,Qja];constructor
   ·rintro ((h|h)|h)
    ·exact .inr (.inl h)
    ·exact .inl h
    ·exact .inr (.inr h)
   ·rintro (h|h|h)
    ·exact .inl (.inr h)
    ·exact .inl (.inl h)
    ·exact .inr h
  ·exact Iff.rfl
theorem pd4(X:List Pt):∀(c out:List Pln),wc0 out->wc0 (c.foldl (Ma1 X) out)
 |[],_,h=>h
 |a::c,out,h=>by
  rw[List.foldl_cons];refine pd4 X c _ ?_;unfold Ma1;split
  ·exact Nd4 a h
  ·exact h
theorem Od5(X:List Pt)(c:List Pln):c.foldl (Ma1 X) []=dd (Sa8 (c.filter (keep X))) :=
 pd1 (pd4 X c [] .nil) (De7 _) λp=>by
  rw[pd3,De6,(Yc6 _).mem_iff];simp
theorem Qe7(x:List Pln)(y:Pln):Sb6 x y≠[]:=by
 intro h
 have:=(wc1 y y x).2 (.inl rfl)
 rw[h] at this;cases this
theorem Od6(y:Pln):∀x:List Pln,(Sb6 x y).length<=x.length+1
 |[]=>Qjn _
 |a::l=>by
  have:=Od6 y l
  unfold Sb6;split
  ·simp only[List.length_cons];omega
  ·split<;>simp only[List.length_cons]<;>omega
theorem De8(x:List Pln)(y:Pln)(hx:x.length<=1000000):rb0 x y=Sb6 x y:=(Zc1 x y hx).p.trans (Ce3 y x)
theorem De9(x:List Pln)(y:Pln)(hx:x.length<=1000000):rb1 x y=true:=(Zc1 x y hx).g
theorem Cf0(l:List Pt)(p:Pln)(n:Nat):l.foldl (λn x=>if rm p x==0 then n+1 else n) n=n+l.countP λx=>rm p x==0:=by
 induction l generalizing n with
 |nil=>rfl
 |cons x l ih =>
  rw[List.foldl_cons,ih,List.countP_cons]
  split<;>omega
theorem Ee0 (c : List Pln) (X : List Pt) (o : List Pln) (hX : X.length ≤ 1000000000) (a φ : Nat) (hφ : φ ≤ 1) (ha : a < c.length) :
  lp (Pa5 ⟨c,X,(a:Int),o⟩) ⟨φ,0,0⟩=(φ+1,⟨φ,(onc X (gL tP c a):Int),(X.length:Int)⟩):=by
 have h:=dc3 (step:=Pa5 ⟨c,X,(a:Int),o⟩) (mk:=λj (n:Nat)=>(⟨φ,(n:Int),(j:Int)⟩:O5)) (f:=λn x=>if rm (gL tP c a) x==0 then n+1 else n) (fin:=φ+1) tX X (λj n=>n<=j) hX
  (λj n hj hi=>by
   have hW:W ((n:Int)+1)=((n+1:Nat):Int):=by rw[qa9 (by omega) (by omega)];omega
   refine⟨?_,by show (if rm (gL tP c a) (gL tX X j)==0 then n+1 else n)<=j+1;split<;>omega⟩
   have hb:φ=0\/φ=1:=by omega
   rcases hb with rfl|rfl
   ·show la0 Stp.next Stp.exit Stp.fail _ _=_;simp only[la0,Int.toNat_natCast,Nc6,hW,r8 hj (show X.length<=4611686018427387904 by omega)]
    rw[btD (l0 hj),bt (d9 hj),bt (d9 ha)];cases rm (gL tP c a) (gL tX X j)==0<;>rfl
   ·show la1 Stp.next Stp.exit Stp.fail _ _=_;simp only[la1,Int.toNat_natCast,Nc6,hW,r8 hj (show X.length<=4611686018427387904 by omega)]
    rw[btD (l0 hj),bt (d9 hj),bt (d9 ha)];cases rm (gL tP c a) (gL tX X j)==0<;>rfl)
  (λn _=>by
   have hb:φ=0\/φ=1:=by omega
   rcases hb with rfl|rfl
   ·show la0 Stp.next Stp.exit Stp.fail _ _=_;simp only[la0];rw[bfD (D7 (Qjaf _))]
   ·show la1 Stp.next Stp.exit Stp.fail _ _=_;simp only[la1];rw[bfD (D7 (Qjaf _))]) 0 (Qjar _) 0 (Qjn _)
 have h:=h.1;rw[Qjap,Cf0,Qjl] at h;exact h
def phP(out:List Pln):Nat:=match out with
 |[]=>0
 |_::_=>1
theorem gf4(c:List Pln)(X:List Pt)(hc:c.length<=1000000)(hX:X.length<=1000000000):∃t s,lp (eb7 ⟨⟩) ⟨0,c,X,0,[]⟩=(t,s)/\(t=phP (c.foldl (Ma1 X) [])+1/\s.Y2=c.foldl (Ma1 X) []):=by
 refine pa5 (step:=eb7 ⟨⟩) (mk:=λj (out:List Pln)=>(⟨phP out,c,X,(j:Int),out⟩:J3)) c.length (λj out=>out.length<=j/\out=(c.take j).foldl (Ma1 X) [])
  (λt s=>t=phP (c.foldl (Ma1 X) [])+1/\s.Y2=c.foldl (Ma1 X) []) (by omega) (λj out hj hi=>?_) (λj out hj hi=>?_) 0 [] ⟨by simp,by simp⟩
 ·obtain⟨i1,i2⟩:=hi;have hl:out.length<=1000000:=by omega
  have hn:=r8 hj (show c.length<=4611686018427387904 by omega)
  have r0:=Ee0 c X [] hX j 0 (by omega) hj
  have r1:=Ee0 c X out hX j 1 (by omega) hj
  have hk:keep X (gL tP c j)=!decide ((onc X (gL tP c j):Int)<3):=rfl;have hge:decide ((onc X (gL tP c j):Int)>=3)=keep X (gL tP c j):=by
   rw[hk];by_cases h:(onc X (gL tP c j):Int)<3
   ·rw[decide_eq_true h,decide_eq_false (by omega)];rfl
   ·rw[decide_eq_false h,decide_eq_true (by omega)];rfl
  have hnx : ∀ {s : J3}, s = ⟨phP (Ma1 X out (gL tP c j)), c, X, ((j + 1 : Nat) : Int), Ma1 X out (gL tP c j)⟩ → Nx (.next s) (fun t => t = phP (c.foldl (Ma1 X) []) + 1 ∧ (⟨phP out, c, X, (j : Int), out⟩ : J3).Y2 = c.foldl (Ma1 X) [])
    (λs=>∃a',s=(⟨phP a',c,X,((j+1:Nat):Int),a'⟩:J3)/\(a'.length<=j+1/\a'=(c.take (j+1)).foldl (Ma1 X) [])):=λ{s} hs=>by
   refine .nx ⟨_,hs,?_,?_⟩
   ·unfold Ma1;split
    ·have:=Od6 (gL tP c j) out;omega
    ·omega
   ·rw[Oc1 tP hj,List.foldl_append,<- i2];rfl
  cases out with
  |nil =>
   show Nx (la2 Stp.next Stp.exit Stp.fail ⟨⟩ _) _ _;simp only[la2,i8,n9,p7,Int.toNat_natCast,r0,hge,De8 [] _ hl,De9 [] _ hl,hn];rw[btD (l0 hj),bt (d9 hj)];cases hkk:keep X (gL tP c j) with
   |true=>exact hnx (by unfold Ma1;rw[hkk,if_pos rfl];rfl)
   |false=>exact hnx (by unfold Ma1;rw[hkk];rfl)
  |cons o os =>
   show Nx (la3 Stp.next Stp.exit Stp.fail ⟨⟩ _) _ _;simp only[la3,i8,n9,p7,Int.toNat_natCast,r1,hge,De8 (o::os) _ hl,De9 (o::os) _ hl,hn];rw[btD (l0 hj),bt (d9 hj),bt (d9 hj)];cases hkk:keep X (gL tP c j) with
   |true =>
    refine hnx ?_;unfold Ma1;rw[hkk,if_pos rfl];have hp:phP (Sb6 (o::os) (gL tP c j))=1:=by
     cases h:Sb6 (o::os) (gL tP c j) with
     |nil=>exact absurd h (Qe7 _ _)
     |cons _ _=>rfl
    rw[hp]
   |false=>exact hnx (by unfold Ma1;rw[hkk];rfl)
 ·obtain⟨i1,i2⟩:=hi;rw[Qjae hj] at i2;cases out with
  |nil =>
   refine⟨1,?_,by rw[<- i2];rfl,i2⟩
   show la2 Stp.next Stp.exit Stp.fail ⟨⟩ _=_;simp only[la2];rw[bfD (by show ¬ ((j:Nat):Int)<(c.length:Int);omega)]
  |cons o os =>
   refine⟨2,?_,by rw[<- i2];rfl,i2⟩
   show la3 Stp.next Stp.exit Stp.fail ⟨⟩ _=_;simp only[la3];rw[bfD (by show ¬ ((j:Nat):Int)<(c.length:Int);omega)]
theorem Od7(c:List Pln)(hc:c.length<=1000000):Rd (one (r1L tP)) (wb5 c) (λr=>r=lean c):=by
 have hl:c.length<=1000000000:=by omega
 have hX:=uc9 c;obtain⟨t,s,h1,h2,h3⟩:=gf4 c (pts c) hc (by omega)
 unfold wb5 lean;simp only[i8,p7,n9,Pe3 hl,Pe4 hl,oe0 hl,oe1 hl];rw[h1];cases hf:ful c with
 |false=>exact⟨_,[],rfl,rfl,rfl⟩
 |true =>
  simp only[h3];rw[<- Od5];subst h2;cases hF:c.foldl (Ma1 (pts c)) [] with
  |nil=>exact⟨_,[],rfl,rfl,rfl⟩
  |cons o os=>exact⟨_,o::os,rfl,od4 tP (o::os),rfl⟩
theorem Qe8(c:List Pln)(hc:c.length<=1000000):nc7 c=lean c:=(Od7 c hc).p
theorem Qe9(c:List Pln)(hc:c.length<=1000000):nc8 c=true:=(Od7 c hc).g
def Re0(l:List Pln)(p:Pln):Bool:=l.any λq=>eqP q p
theorem Od8(l:List Pln)(p:Pln):Re0 l p=true↔p∈l:=by
 unfold Re0;rw[Qjy];exact⟨λ⟨q,h,e⟩=>by rw[Bb2] at e;exact e ▸ h,λh=>⟨p,h,(Bb2 p p).2 rfl⟩⟩
noncomputable def but(r l:List Pln):List Pln:=r.filter λp=>Re0 ws p||!Re0 l p
theorem pb5(r l:List Pln)(p:Pln):p∈but r l↔p∈r/\(p∈ws\/p∉l):=by
 unfold but;rw[Qjr,Bool.or_eq_true,Od8,Qjaw,<- Bool.not_eq_true,Od8]
theorem ge3{c:List Pln}(hb:Bds (c++ws))(hB:Od0 (c++ws)):∀l:List Pln,(∀p∈l,p∈c/\onc (cor (c++ws)) p<=2)->∀z,Inr (but (c++ws) l) z->Inr (c++ws) z
 |[],_,z,hz=>⟨hz.w,λp hp=>hz.h p ((pb5 _ _ _).2 ⟨hp,.inr (by simp)⟩)⟩
 |a::l,hl,z,hz=>by
  have ih:=ge3 hb hB l λp hp=>hl p (Qjg _ hp)
  refine ih z ?_;obtain⟨ha,hn⟩:=hl a Qji;have har:a∈c++ws:=Qjb _ ha;by_cases h0:a∈ws\/a∈l
  ·refine⟨hz.w,λp hp=>hz.h p ?_⟩
   obtain⟨h1,h2⟩:=(pb5 _ _ _).1 hp;refine (pb5 _ _ _).2 ⟨h1,?_⟩
   rcases h2 with h2|h2
   ·exact .inl h2
   ·by_cases hpa:p=a
    ·subst hpa
     rcases h0 with h0|h0
     ·exact .inl h0
     ·exact absurd h0 h2
    ·exact .inr λh=>(Qja.1 h).elim hpa h2
  ·have hw:a∉ws:=λh=>h0 (.inl h)
   have hal:a∉l:=λh=>h0 (.inr h)
   have sub:∀p∈but (c++ws) l,p∈c++ws:=λp hp=>((pb5 _ _ _).1 hp).1
   refine rf9 (r:=but (c++ws) l) (r':=but (c++ws) (a::l)) (p:=a) ?_ ?_ ((pb5 _ _ _).2 ⟨har,.inr hal⟩) ?_ ((cor (c++ws)).filter λx=>rm a x==0) ?_ ?_ ?_ hz
   ·intro d hd;obtain⟨p,hp,h⟩:=Dc3 [] d hd;exact⟨p,(pb5 _ _ _).2 ⟨Qjd _ hp,.inl hp⟩,h⟩
   ·obtain⟨x,h1,h2⟩:=hB;exact⟨x,h1,λp hp=>h2 p (sub p hp)⟩
   ·intro q hq;obtain⟨h1,h2⟩:=(pb5 _ _ _).1 hq;by_cases hqa:q=a
    ·exact .inr hqa
    ·exact .inl ((pb5 _ _ _).2 ⟨h1,h2.elim .inl λh=>.inr λh'=>(Qja.1 h').elim hqa h⟩)
   ·rw[<- List.countP_eq_length_filter];exact hn
   ·intro v hv;obtain⟨h1,h2⟩:=Qjr.1 hv;have hx:=Nb9 hb v h1;rw[Od1 (hb a har) hx] at h2;exact⟨by simpa using h2,hx.w1⟩
   ·intro v hv h0;have hv':Cn (c++ws) v:=Qe6 sub hv (ih v hv.toInr);obtain⟨x,hx,he⟩:=Zd1 hb hv';have hok:=Nb9 hb x hx;refine⟨x,Qjr.2 ⟨hx,?_⟩,he⟩;rw[Od1 (hb a har) hok];have h1:=he.rm a;rw[h0,Qjan] at h1
    have:=(Qjp.1 h1).resolve_right (by have:=hv.w;omega)
    simpa using this
theorem Zc4{c:List Pln}(hf:ful c=true):(chk c==0)=true/\Bds (c++ws)/\Od0 (c++ws):=by
 unfold ful at hf;rw[Qjq] at hf;have hb:=(Qa3 hf.1).1;exact⟨hf.1,hb,(Ib7 hb (Dc3 c) (by simp[ws])).1 hf.2⟩
theorem Od9{c:List Pln}(hf:ful c=true)(p:Pln):p∈lean c↔p∈c/\keep (pts c) p=true:=by
 unfold lean;rw[if_pos hf,De6,(Yc6 _).mem_iff,Qjr]
theorem ac0(c:List Pln):(lean c).length<=c.length:=by
 unfold lean;split
 ·have h1 : (dd (Sa8 (c.filter (keep (pts c))))).length ≤ (Sa8 (c.filter (keep (pts c)))).length := by
   cases Sa8 (c.filter (keep (pts c))) with
   |nil=>exact Qjn _
   |cons a l=>have:=fe4 a l;simp only[dd,List.length_cons];omega
  rw[ec5] at h1
  have:=Qjbf (keep (pts c)) c
  omega
 ·exact Qjar _
theorem Re1{c:List Pln}{x:Pt}(hb:∀p∈c,Bd p)(hx:Okx x):inn c x=true↔∀p∈c,0<=rmZ p x:=by
 unfold inn;rw[Qjt];refine⟨λh p hp=>?_,λh p hp=>?_⟩
 ·have:=h p hp
  rw[Od1 (hb p hp) hx] at this;simpa using this
 ·rw[Od1 (hb p hp) hx];simpa using h p hp
def Cf1(p:Pln)(v:V3):Int:=if okp p&&inV v then (if dot p.n v-p.b<0 then -1 else if dot p.n v-p.b>0 then 1 else 0) else 0
structure Thr(a b c:V3)(p:Pln):Prop where
 ok:okp p=true
 k:∃g:Int,0<g/\g*p.n.x=(k9 (sub b a) (sub c a)).x/\g*p.n.y=(k9 (sub b a) (sub c a)).y/\g*p.n.z=(k9 (sub b a) (sub c a)).z
 o:p.b=dot p.n a
theorem Pd0{p:Pln}(h:okp p=true):okp (U1 p)=true:=by
 unfold okp U1 g3 at *
 simp only[List.all_cons,List.all_nil,Qjbg,Qjq,Bb1,Int.natAbs_neg] at h ⊢;obtain⟨⟨h1,h2,h3⟩,h4,h5⟩:=h;exact⟨⟨h1.neg,h2.neg,h3.neg⟩,h4,h5.neg⟩
def hold(p:Pln)(l:List V3):Bool:=!l.any λv=>decide (Cf1 p v>0)
noncomputable def sf0 (l:List V3) (a c:Nat) (out:List Pln) (k:Nat):List Pln :=
  if (gd6 (gL tV l a) (gL tV l c) (gL tV l k)).2 then
    (if hold (U1 (gd6 (gL tV l a) (gL tV l c) (gL tV l k)).1) l then Sb6 (if hold (gd6 (gL tV l a) (gL tV l c) (gL tV l k)).1 l then Sb6 out (gd6 (gL tV l a) (gL tV l c) (gL tV l k)).1 else out) (U1 (gd6 (gL tV l a) (gL tV l c) (gL tV l k)).1)
     else (if hold (gd6 (gL tV l a) (gL tV l c) (gL tV l k)).1 l then Sb6 out (gd6 (gL tV l a) (gL tV l c) (gL tV l k)).1 else out))
  else out
noncomputable def F2(l:List V3)(a:Nat)(out:List Pln)(c:Nat):List Pln:=(List.range c).foldl (sf0 l a c) out
noncomputable def F1(l:List V3)(out:List Pln)(a:Nat):List Pln:=(List.range a).foldl (F2 l a) out
noncomputable def F0(l:List V3):List Pln:=(List.range l.length).foldl (F1 l) []
theorem gf5{p:Pln}(h:okp p=true):g3 p.n=1:=by
 unfold okp at h;simp only[Qjq,beq_iff_eq] at h;exact h.2.1
theorem Ee1{p:Pln}(h:okp p=true):p.n≠⟨0,0,0⟩:=λe=>by
 have:=gf5 h
 rw[e] at this
 revert this
 decide
structure Df0(l:List V3):Prop where
 h:∃a c k v,a∈l/\c∈l/\k∈l/\v∈l/\dot (k9 (sub c a) (sub k a)) (sub v a)≠0
structure Fct(l:List V3)(p:Pln):Prop where
 ok:okp p=true
 hd:hold p l=true
theorem oe8{l:List Pln}(h:wc0 l):l.Nodup:=List.Pairwise.imp (λ{x y} (h:LtP x y) (e:x=y)=>Oc2 y (e ▸ h)) h
theorem Qb8:g3 ⟨1,0,0⟩=1/\g3 ⟨-1,0,0⟩=1/\g3 ⟨0,1,0⟩=1/\g3 ⟨0,-1,0⟩=1/\g3 ⟨0,0,1⟩=1/\g3 ⟨0,0,-1⟩=1:=by decide
structure Zc5(c:List Pln):Prop where
 l:c.length<=47
 v:∀p∈c,okp p=true
 f:Od0 (c++ws)
theorem Zc5.chk{c:List Pln}(h:Zc5 c):(chk c==0)=true:=by
 rw[beq_iff_eq,za7];exact⟨by have:=h.l;omega,h.v⟩
theorem Zc5.bds{c:List Pln}(h:Zc5 c):Bds (c++ws):=(Qa3 h.chk).1
theorem Zc5.ful{c:List Pln}(h:Zc5 c):ful c=true:=by
 unfold Ce.ful;rw[h.chk,(Ib7 h.bds (Dc3 c) (by simp[ws])).2 h.f]
 rfl
theorem Pd1{lo hi:V3}(h1:Sm 20 lo.x/\Sm 20 lo.y/\Sm 20 lo.z)(h2:Sm 20 hi.x/\Sm 20 hi.y/\Sm 20 hi.z)(h3:lo.x<hi.x/\lo.y<hi.y/\lo.z<hi.z):Zc5 (Hb6 lo hi):=by
 obtain⟨⟨a1,a2⟩,⟨a3,a4⟩,a5,a6⟩:=h1;obtain⟨⟨b1,b2⟩,⟨b3,b4⟩,b5,b6⟩:=h2;obtain⟨c1,c2,c3⟩:=h3;have w:∀{x:Int},-20<=x->x<=20->W (0-x)=-x:=λh h'=>by rw[qa9 (by omega) (by omega)];omega
 have e:Hb6 lo hi=[⟨⟨1,0,0⟩,hi.x⟩,⟨⟨-1,0,0⟩,-lo.x⟩,⟨⟨0,1,0⟩,hi.y⟩,⟨⟨0,-1,0⟩,-lo.y⟩,⟨⟨0,0,1⟩,hi.z⟩,⟨⟨0,0,-1⟩,-lo.z⟩]:=by
  unfold Hb6;rw[w a1 a2,w a3 a4,w a5 a6]
 rw[e];refine⟨by simp,λp hp=>?_,⟨⟨lo.x+hi.x,lo.y+hi.y,lo.z+hi.z,2⟩,by show (0:Int)<2;omega,λp hp=>?_⟩⟩
 ·simp only[Qja,Qjak,or_false] at hp;unfold okp;simp only[List.all_cons,List.all_nil,Qjbg,Qjq,Bb1,beq_iff_eq,Sm]
  rcases hp with rfl|rfl|rfl|rfl|rfl|rfl<;>exact⟨by simp,by first|exact Qb8.1|exact Qb8.2.1|exact Qb8.2.2.1|exact Qb8.2.2.2.1|exact Qb8.2.2.2.2.1|exact Qb8.2.2.2.2.2,by simp only;omega⟩
 ·simp only[ws,List.cons_append,List.nil_append,Qja,Qjak,or_false] at hp
  rcases hp with rfl|rfl|rfl|rfl|rfl|rfl|rfl|rfl|rfl|rfl|rfl|rfl<;>simp only[rmZ]<;>omega
theorem gf6(p:Pln)(N:Int)(v x:Pt):rmZ p ⟨N*v.px+x.px,N*v.py+x.py,N*v.pz+x.pz,N*v.pw+x.pw⟩=N*rmZ p v+rmZ p x:=by unfold rmZ;grind
theorem Zc5.pts{c:List Pln}(h:Zc5 c):pts c=cor (c++ws):=by unfold Ce.pts;rw[if_pos h.chk]
structure Ins(r:List Pln)(x:Pt):Prop where
 w:0<x.pw
 h:∀p∈r,0<rmZ p x
theorem Ins.inr{r:List Pln}{x:Pt}(h:Ins r x):Inr r x:=⟨h.w,λp hp=>Qjh (h.h p hp)⟩
theorem Zc6{r:List Pln}:Od0 r↔∃x,Ins r x:=⟨λ⟨x,h1,h2⟩=>⟨x,h1,h2⟩,λ⟨x,h⟩=>⟨x,h.w,h.h⟩⟩
theorem Ins.mono{r r':List Pln}{x:Pt}(h:Ins r x)(hs:∀p∈r',p∈r):Ins r' x:=⟨h.w,λp hp=>h.h p (hs p hp)⟩
theorem Inr.mono{r r':List Pln}{x:Pt}(h:Inr r x)(hs:∀p∈r',p∈r):Inr r' x:=⟨h.w,λp hp=>h.h p (hs p hp)⟩
theorem Ins.app{r r':List Pln}{x:Pt}(h:Ins r x)(h':Ins r' x):Ins (r++r') x:=⟨h.w,λp hp=>(Qjc.1 hp).elim (h.h p) (h'.h p)⟩
theorem Inr.app{r r':List Pln}{x:Pt}(h:Inr r x)(h':Inr r' x):Inr (r++r') x:=⟨h.w,λp hp=>(Qjc.1 hp).elim (h.h p) (h'.h p)⟩
def tow(N:Int)(y x:Pt):Pt:=⟨N*y.px+x.px,N*y.py+x.py,N*y.pz+x.pz,N*y.pw+x.pw⟩
theorem gf7(p:Pln)(N:Int)(y x:Pt):rmZ p (tow N y x)=N*rmZ p y+rmZ p x:=gf6 p N y x
theorem far{f g:Pln->Int}:∀l:List Pln,(∀p∈l,0<f p)->∃N:Int,0<=N/\∀M,N<=M->∀p∈l,0<M*f p+g p
 |[],_=>⟨0,Qjbc _,λ_ _ p hp=>by cases hp⟩
 |a::l,h=>by
  obtain⟨N,h0,h1⟩:=far l λp hp=>h p (Qjg _ hp)
  have ha:=h a Qji;refine⟨max N ((g a).natAbs+1),by omega,λM hM p hp=>?_⟩
  rcases Qja.1 hp with rfl|hp
  ·have:M*1<=M*f p:=Int.mul_le_mul_of_nonneg_left (by omega) (by omega)
   omega
  ·exact h1 M (by omega) p hp
theorem gf8{r:List Pln}{x y:Pt}(hy:Inr r y)(hx:Ins r x)(l:List Pln)(hl:∀p∈l,0<rmZ p y):∃z,Ins (r++l) z:=by
 obtain⟨N,h0,h1⟩:=far (f:=λp=>rmZ p y) (g:=λp=>rmZ p x) l hl
 refine⟨tow N y x,by have:=Qjk h0 (Qjh hy.w);have:=hx.w;unfold tow;simp only;omega,λp hp=>?_⟩
 rw[gf7]
 rcases Qjc.1 hp with hp|hp
 ·have:=Qjk h0 (hy.h p hp)
  have:=hx.h p hp
  omega
 ·exact h1 N (Qjbc _) p hp
def mvd(N:Int)(x:Pt)(d:V3):Pt:=⟨N*x.px+d.x,N*x.py+d.y,N*x.pz+d.z,N*x.pw⟩
theorem zd6(p:Pln)(N:Int)(x:Pt)(d:V3):rmZ p (mvd N x d)=N*rmZ p x+-dot p.n d:=by simp only[rmZ,mvd,dot];grind
theorem Ee2{r:List Pln}{x:Pt}(hx:Ins r x)(d:V3):∃N:Int,0<N/\Ins r (mvd N x d):=by
 obtain⟨N,h0,h1⟩:=far (f:=λp=>rmZ p x) (g:=λp=>-dot p.n d) r hx.h
 refine⟨N+1,by omega,by have:=Qjo (show 0<N+1 by omega) hx.w;unfold mvd;simp only;omega,λp hp=>?_⟩
 rw[zd6];exact h1 (N+1) (by omega) p hp
theorem gf9:∀p∈ws,okp p=true:=Qjt.1 (by decide)
theorem Zc7{n:V3}(h:n≠⟨0,0,0⟩):0<dot n n:=by
 have k:∀a:Int,0<=a*a/\(a≠0->0<a*a):=λa=>by
  rcases Int.lt_trichotomy a 0 with h|h|h
  ·have:=Qjay h h;exact⟨by omega,λ_=>this⟩
  ·subst h;exact⟨by decide,λh=>absurd rfl h⟩
  ·have:=Qjo h h;exact⟨by omega,λ_=>this⟩
 unfold dot
 have:=k n.x;have:=k n.y;have:=k n.z
 by_cases hx:n.x=0
 ·by_cases hy:n.y=0
  ·by_cases hz:n.z=0
   ·exact absurd (V3.ext' hx hy hz) h
   ·have:=(k n.z).2 hz;omega
  ·have:=(k n.y).2 hy;omega
 ·have:=(k n.x).2 hx;omega
theorem kb1{c:List Pln}(h:(chk c==0)=true):∀p∈c++ws,okp p=true:=λp hp=>by
 rw[beq_iff_eq,za7] at h
 rcases Qjc.1 hp with hp|hp
 ·exact h.2 p hp
 ·exact gf9 p hp
theorem D9{c:List Pln}:ful c=true↔(chk c==0)=true/\∃x,Ins (c++ws) x:=by
 unfold ful;rw[Qjq];constructor
 ·rintro⟨h1,h2⟩;exact⟨h1,Zc6.1 ((Ib7 (Qa3 h1).1 (Dc3 c) (by simp[ws])).1 h2)⟩
 ·rintro⟨h1,h2⟩;exact⟨h1,(Ib7 (Qa3 h1).1 (Dc3 c) (by simp[ws])).2 (Zc6.2 h2)⟩
theorem cb6{a c:List Pln}(ha:(chk a==0)=true)(hc:(chk c==0)=true):apart a c=true↔∀z,Ins (a++ws) z->Ins (c++ws) z->False:=by
 unfold apart;rw[ha,hc];have hb:=(Md7 ha hc).1;have h:=Ib7 (r:=a++c++ws) hb (Dc3 (a++c)) (by simp[ws])
 have key:Kc4 (a++c++ws)=true↔∃z,Ins (a++ws) z/\Ins (c++ws) z:=by
  rw[h,Zc6];constructor
  ·rintro⟨z,hz⟩;exact⟨z,hz.mono λp hp=>by simp only[Qjc] at hp ⊢;rcases hp with h | h<;>simp[h],hz.mono λp hp=>by simp only[Qjc] at hp ⊢;rcases hp with h | h<;>simp[h]⟩
  ·rintro⟨z,h1,h2⟩;exact⟨z,(h1.app h2).mono λp hp=>by simp only[Qjc] at hp ⊢;rcases hp with (h | h) | h<;>simp[h]⟩
 constructor
 ·intro h z h1 h2;rw[key.2 ⟨z,h1,h2⟩] at h;cases h
 ·intro h;cases hb:Kc4 (a++c++ws) with
  |false=>rfl
  |true =>
   obtain⟨z,h1,h2⟩:=key.1 hb;exact (h z h1 h2).elim
theorem ga1{c:List Pln}{p:Pln}(h:p∈lean c):p∈c:=by
 cases hf:ful c with
 |true=>exact ((Od9 hf p).1 h).1
 |false=>unfold lean at h;rw[hf] at h;cases h
theorem Re2{c:List Pln}(hf:ful c=false):lean c=[]:=by unfold lean;rw[hf];rfl
theorem Aa9{c:List Pln}(hf:ful c=true){z:Pt}:Inr (lean c++ws) z↔Inr (c++ws) z:=by
 obtain⟨hc,hb,hB⟩:=Zc4 hf;constructor
 ·intro h;have hpts:pts c=cor (c++ws):=by unfold pts;rw[if_pos hc]
  refine ge3 hb hB (c.filter λp=>!keep (pts c) p) (λp hp=>?_) z ⟨h.w,λp hp=>?_⟩
  ·obtain⟨h1,h2⟩:=Qjr.1 hp;refine⟨h1,?_⟩;rw[hpts] at h2;unfold keep at h2;simp only[Bool.not_not,decide_eq_true_eq] at h2;omega
  ·obtain⟨h1,h2⟩:=(pb5 _ _ _).1 hp;by_cases hw:p∈ws
   ·exact h.h p (Qjd _ hw)
   ·have h2:=h2.resolve_left hw;have h1:=(Qjc.1 h1).resolve_right hw;have hk:keep (pts c) p=true:=by
     cases hk:keep (pts c) p with
     |true=>rfl
     |false=>exact absurd (Qjr.2 ⟨h1,by rw[hk];rfl⟩) h2
    exact h.h p (Qjb _ ((Od9 hf p).2 ⟨h1,hk⟩))
 ·exact λh=>h.mono λp hp=>(Qjc.1 hp).elim (λh=>Qjb _ (ga1 h)) (Qjd _)
theorem Xa9{c:List Pln}(hf:ful c=true){z:Pt}:Ins (lean c++ws) z↔Ins (c++ws) z:=by
 obtain⟨hc,hb,hB⟩:=Zc4 hf;constructor
 ·intro h;refine⟨h.w,λp hp=>?_⟩
  have h0:=((Aa9 hf).1 h.inr).h p hp;by_cases hz:rmZ p z=0
  ·exfalso;obtain⟨N,hN,hi⟩:=Ee2 h p.n;have h1:=((Aa9 hf).1 hi.inr).h p hp;rw[zd6,hz] at h1
   have:=Zc7 (Ee1 (kb1 hc p hp))
   omega
  ·omega
 ·exact λh=>h.mono λp hp=>(Qjc.1 hp).elim (λh=>Qjb _ (ga1 h)) (Qjd _)
theorem Pd2{c:List Pln}(hc:(chk c==0)=true):(chk (lean c)==0)=true:=by
 rw[beq_iff_eq,za7] at hc ⊢;exact⟨Nat.le_trans (ac0 c) hc.1,λp hp=>hc.2 p (ga1 hp)⟩
theorem Zc8{c:List Pln}(hf:ful c=true):ful (lean c)=true:=by
 obtain⟨h1,x,hx⟩:=D9.1 hf;exact D9.2 ⟨Pd2 h1,x,(Xa9 hf).2 hx⟩
theorem Pb2(c:List Pln):(lean c).Nodup:=by
 unfold lean;split
 ·exact oe8 (De7 _)
 ·exact .nil
theorem oe9{r:List Pln}{p:Pln}(hf:ful (r++[U1 p])=true){x:Pt}(hx:Inr (r++ws) x)(h:0<rmZ p x):U1 p∈lean (r++[U1 p]):=by
 apply Qjaz;intro hn;have h1:Inr (lean (r++[U1 p])++ws) x:=hx.mono λq hq=>by
  rcases Qjc.1 hq with hq|hq
  ·have:=ga1 hq
   rcases Qjc.1 this with h2|h2
   ·exact Qjb _ h2
   ·rw[Qje.1 h2] at hq;exact absurd hq hn
  ·exact Qjd _ hq
 have:=((Aa9 hf).1 h1).h (U1 p) (by simp)
 rw[qa1] at this;omega
theorem ge4{l m:List Pln}(hl:l.Nodup)(h:∀p∈l,p∈m):l.length<=m.length:=List.Nodup.length_le_of_subset hl h
noncomputable def v7(x fs:List Pln):Nat->List Pln
 |0=>x
 |j+1=>lean (v7 x fs j++[gL tP fs j])
noncomputable def sa5(x fs:List Pln)(j:Nat):List Pln:=lean (v7 x fs j++[U1 (gL tP fs j)])
noncomputable def Ca6(x fs:List Pln)(j:Nat):List (List Pln):=((List.range j).map (sa5 x fs)).filter λc=>decide (0<c.length)
noncomputable def ra9(x fs:List Pln):Bool:=(List.range fs.length).all λj=>decide ((v7 x fs j).length<48)
noncomputable def qa2(q x:List Pln):List (List Pln):=if apart x q then [x] else Ca6 x (lean q) (lean q).length
noncomputable def Ha4(q x:List Pln):Bool:=apart x q||ra9 x (lean q)
noncomputable def E8(ps:List (List Pln))(q:List Pln):Option (List (List Pln)) :=
 if ful q then (if ps.all (Ha4 q)&&decide ((ps.flatMap (qa2 q)).length<=200) then some (ps.flatMap (qa2 q)) else none) else some ps
noncomputable def la4(c:List Pln)(s:List (List Pln)):Option (List (List Pln)) :=
 s.foldl (λst q=>st.bind λps=>E8 ps q) (some (if ful c then [lean c] else []))
theorem wb6{x fs:List Pln}{n:Nat}{y:List Pln}:y∈Ca6 x fs n↔∃j,j<n/\y=sa5 x fs j/\y≠[]:=by
 unfold Ca6;rw[Qjr,List.mem_map];constructor
 ·rintro⟨⟨j,hj,rfl⟩,h⟩;exact⟨j,Qjab.1 hj,rfl,λe=>by rw[e] at h;simp at h⟩
 ·rintro⟨j,hj,rfl,h⟩;exact⟨⟨j,Qjab.2 hj,rfl⟩,by simpa using List.length_pos_iff.2 h⟩
section
variable{x fs:List Pln}(hx:(chk x==0)=true)(hf:∀p∈fs,okp p=true){z0:Pt}(h1:Ins (x++ws) z0)(h2:Ins (fs++ws) z0)(h48:ra9 x fs=true)
include hx hf h1 h2 h48
theorem gLp{fs:List Pln}{j:Nat}(hj:j<fs.length):gL tP fs j∈fs:=ga4 tP hj
theorem Zc9{j:Nat}(hj:j<fs.length):(v7 x fs j).length<48:=by
 have:=Qjt.1 h48 j (Qjab.2 hj)
 simpa using this
theorem pb6 : ∀ j, j ≤ fs.length → (chk (v7 x fs j) == 0) = true ∧ (∀ z, Inr (v7 x fs j ++ ws) z ↔ Inr (x ++ ws) z ∧ ∀ i, i < j → 0 ≤ rmZ (gL tP fs i) z) ∧
  (∀z,Ins (v7 x fs j++ws) z↔Ins (x++ws) z/\∀i,i<j->0<rmZ (gL tP fs i) z)
 |0,_=>⟨hx,λz=>⟨λh=>⟨h,λi hi=>absurd hi (Qjba i)⟩,λh=>h.1⟩,λz=>⟨λh=>⟨h,λi hi=>absurd hi (Qjba i)⟩,λh=>h.1⟩⟩
 |j+1,hj=>by
  obtain⟨k1,k2,k3⟩:=pb6 j (by omega)
  have hl:=Zc9 hx hf h1 h2 h48 (show j<fs.length by omega)
  have hpj:=hf _ (gLp hx hf h1 h2 h48 (show j<fs.length by omega))
  have hc:(chk (v7 x fs j++[gL tP fs j])==0)=true:=by
   rw[beq_iff_eq,za7] at k1 ⊢;refine⟨by rw[Qjj];simp only[List.length_singleton];omega,λp hp=>?_⟩
   rcases Qjc.1 hp with hp|hp
   ·exact k1.2 p hp
   ·rw[Qje.1 hp];exact hpj
  have h0:Ins (v7 x fs j++ws) z0:=(k3 z0).2 ⟨h1,λi hi=>h2.h _ (Qjb _ (gLp hx hf h1 h2 h48 (by omega)))⟩
  have hz:0<rmZ (gL tP fs j) z0:=h2.h _ (Qjb _ (gLp hx hf h1 h2 h48 (by omega)))
  have hful:ful (v7 x fs j++[gL tP fs j])=true:=D9.2 ⟨hc,z0,h0.w,λp hp=>by
   simp only[Qjc,Qje] at hp
   rcases hp with (hp|rfl)|hp
   ·exact h0.h p (Qjb _ hp)
   ·exact hz
   ·exact h0.h p (Qjd _ hp)⟩
  refine⟨Pd2 hc,λz=>?_,λz=>?_⟩
  ·show Inr (lean (v7 x fs j++[gL tP fs j])++ws) z↔_;rw[Aa9 hful];constructor
   ·intro h;obtain⟨a1,a2⟩:=(k2 z).1 (h.mono λp hp=>by simp only[Qjc] at hp ⊢;rcases hp with h|h<;>simp[h])
    refine⟨a1,λi hi=>?_⟩
    by_cases e:i=j
    ·subst e;exact h.h _ (by simp)
    ·exact a2 i (by omega)
   ·rintro⟨a1,a2⟩
    have:=(k2 z).2 ⟨a1,λi hi=>a2 i (by omega)⟩
    refine⟨a1.w,λp hp=>?_⟩
    simp only[Qjc,Qje] at hp
    rcases hp with (hp|rfl)|hp
    ·exact this.h p (Qjb _ hp)
    ·exact a2 j (by omega)
    ·exact this.h p (Qjd _ hp)
  ·show Ins (lean (v7 x fs j++[gL tP fs j])++ws) z↔_;rw[Xa9 hful];constructor
   ·intro h;obtain⟨a1,a2⟩:=(k3 z).1 (h.mono λp hp=>by simp only[Qjc] at hp ⊢;rcases hp with h|h<;>simp[h])
    refine⟨a1,λi hi=>?_⟩
    by_cases e:i=j
    ·subst e;exact h.h _ (by simp)
    ·exact a2 i (by omega)
   ·rintro⟨a1,a2⟩
    have:=(k3 z).2 ⟨a1,λi hi=>a2 i (by omega)⟩
    refine⟨a1.w,λp hp=>?_⟩
    simp only[Qjc,Qje] at hp
    rcases hp with (hp|rfl)|hp
    ·exact this.h p (Qjb _ hp)
    ·exact a2 j (by omega)
    ·exact this.h p (Qjd _ hp)
theorem Dc4 {j : Nat} (hj : j < fs.length) : (sa5 x fs j = [] ↔ ful (v7 x fs j ++ [U1 (gL tP fs j)]) = false) ∧ (sa5 x fs j ≠ [] → ful (sa5 x fs j) = true ∧
  (∀z,Inr (sa5 x fs j++ws) z↔Inr (v7 x fs j++ws) z/\rmZ (gL tP fs j) z<=0)/\∀z,Ins (sa5 x fs j++ws) z↔Ins (v7 x fs j++ws) z/\rmZ (gL tP fs j) z<0):=by
 obtain⟨k1,k2,k3⟩:=pb6 hx hf h1 h2 h48 j (by omega)
 have h0:Ins (v7 x fs j++ws) z0:=(k3 z0).2 ⟨h1,λi hi=>h2.h _ (Qjb _ (gLp hx hf h1 h2 h48 (by omega)))⟩
 have hz:0<rmZ (gL tP fs j) z0:=h2.h _ (Qjb _ (gLp hx hf h1 h2 h48 (by omega)))
 have e:sa5 x fs j=[]↔ful (v7 x fs j++[U1 (gL tP fs j)])=false:=by
  constructor
  ·intro he;cases hq:ful (v7 x fs j++[U1 (gL tP fs j)]) with
   |false=>rfl
   |true =>
    have:=oe9 hq h0.inr hz
    unfold sa5 at he;rw[he] at this;cases this
  ·exact Re2
 refine⟨e,λhne=>?_⟩
 have hful:ful (v7 x fs j++[U1 (gL tP fs j)])=true:=by
  cases hq:ful (v7 x fs j++[U1 (gL tP fs j)]) with
  |true=>rfl
  |false=>exact absurd (e.2 hq) hne
 refine⟨Zc8 hful,λz=>?_,λz=>?_⟩
 ·unfold sa5;rw[Aa9 hful];constructor
  ·intro h;refine⟨h.mono λp hp=>by simp only[Qjc] at hp ⊢;rcases hp with h | h<;>simp[h],?_⟩
   have:=h.h (U1 (gL tP fs j)) (by simp)
   rw[qa1] at this;omega
  ·rintro⟨a1,a2⟩;refine⟨a1.w,λp hp=>?_⟩
   simp only[Qjc,Qje] at hp
   rcases hp with (hp|rfl)|hp
   ·exact a1.h p (Qjb _ hp)
   ·rw[qa1];omega
   ·exact a1.h p (Qjd _ hp)
 ·unfold sa5;rw[Xa9 hful];constructor
  ·intro h;refine⟨h.mono λp hp=>by simp only[Qjc] at hp ⊢;rcases hp with h | h<;>simp[h],?_⟩
   have:=h.h (U1 (gL tP fs j)) (by simp)
   rw[qa1] at this;omega
  ·rintro⟨a1,a2⟩;refine⟨a1.w,λp hp=>?_⟩
   simp only[Qjc,Qje] at hp
   rcases hp with (hp|rfl)|hp
   ·exact a1.h p (Qjb _ hp)
   ·rw[qa1];omega
   ·exact a1.h p (Qjd _ hp)
theorem ge5:∀j,j<=fs.length->∀z,Inr (x++ws) z->(∃y∈Ca6 x fs j,Inr (y++ws) z)\/∀i,i<j->0<=rmZ (gL tP fs i) z
 |0,_,z,_=>.inr λi hi=>absurd hi (Qjba i)
 |j+1,hj,z,hz=>by
  rcases ge5 j (by omega) z hz with⟨y,hy,h⟩|h
  ·obtain⟨i,hi,h3,h4⟩:=wb6.1 hy;exact .inl ⟨y,wb6.2 ⟨i,by omega,h3,h4⟩,h⟩
  ·obtain⟨k1,k2,k3⟩:=pb6 hx hf h1 h2 h48 j (by omega)
   have hr:Inr (v7 x fs j++ws) z:=(k2 z).2 ⟨hz,h⟩;by_cases hn:0<=rmZ (gL tP fs j) z
   ·refine .inr λi hi=>?_
    by_cases e:i=j
    ·subst e;exact hn
    ·exact h i (by omega)
   ·left;obtain⟨c1,c2⟩:=Dc4 hx hf h1 h2 h48 (show j<fs.length by omega)
    have h0:Ins (v7 x fs j++ws) z0:=(k3 z0).2 ⟨h1,λi hi=>h2.h _ (Qjb _ (gLp hx hf h1 h2 h48 (by omega)))⟩
    obtain⟨y,hy⟩:=gf8 hr h0 [U1 (gL tP fs j)] (λp hp=>by rw[Qje.1 hp,qa1];omega)
    have hne:sa5 x fs j≠[]:=λe=>by
     have hq:=c1.1 e;have hl:=Zc9 hx hf h1 h2 h48 (show j<fs.length by omega)
     have hc:(chk (v7 x fs j++[U1 (gL tP fs j)])==0)=true:=by
      rw[beq_iff_eq,za7] at k1 ⊢;refine⟨by rw[Qjj];simp only[List.length_singleton];omega,λp hp=>?_⟩
      rcases Qjc.1 hp with hp|hp
      ·exact k1.2 p hp
      ·rw[Qje.1 hp];exact Pd0 (hf _ (gLp hx hf h1 h2 h48 (by omega)))
     have hs:∀p∈v7 x fs j++[U1 (gL tP fs j)]++ws,p∈v7 x fs j++ws++[U1 (gL tP fs j)]:=λp hp=>by
      simp only[Qjc] at hp ⊢
      rcases hp with (h|h)|h
      ·exact .inl (.inl h)
      ·exact .inr h
      ·exact .inl (.inr h)
     have:=D9.2 ⟨hc,y,hy.mono hs⟩
     rw[hq] at this;cases this
    exact⟨_,wb6.2 ⟨j,by omega,rfl,hne⟩,((c2 hne).2.1 z).2 ⟨hr,by omega⟩⟩
theorem hf0 : (∀ y ∈ Ca6 x fs fs.length, ful y = true ∧ (∀ z, Inr (y ++ ws) z → Inr (x ++ ws) z) ∧ ∀ z, Ins (y ++ ws) z → Inr (fs ++ ws) z → False) ∧
  (Ca6 x fs fs.length).Pairwise λa b=>∀z,Ins (a++ws) z->Ins (b++ws) z->False:=by
 refine⟨λy hy=>?_,?_⟩
 ·obtain⟨j,hj,rfl,hne⟩:=wb6.1 hy;obtain⟨c1,c2,c3⟩:=(Dc4 hx hf h1 h2 h48 hj).2 hne;obtain⟨k1,k2,k3⟩:=pb6 hx hf h1 h2 h48 j (by omega)
  refine⟨c1,λz hz=>((k2 z).1 ((c2 z).1 hz).1).1,λz hz hq=>?_⟩
  have:=((c3 z).1 hz).2
  have:=hq.h _ (Qjb _ (gLp hx hf h1 h2 h48 hj))
  omega
 ·unfold Ca6;rw[List.pairwise_filter,List.pairwise_map];refine List.pairwise_lt_range.imp_of_mem λ{a b} ha hb hab p1 p2 z z1 z2=>?_
  have ha:=Qjab.1 ha;have hb:=Qjab.1 hb;have n1:sa5 x fs a≠[]:=λe=>by rw[e] at p1;simp at p1
  have n2:sa5 x fs b≠[]:=λe=>by rw[e] at p2;simp at p2
  have q1:=(((Dc4 hx hf h1 h2 h48 ha).2 n1).2.2 z).1 z1;have q2:=(((Dc4 hx hf h1 h2 h48 hb).2 n2).2.2 z).1 z2;have q3:=((pb6 hx hf h1 h2 h48 b (by omega)).2.2 z).1 q2.1
  have:=q3.2 a hab
  omega
end
structure Pcs(c:List Pln)(S ps:List (List Pln)):Prop where
 ful:∀y∈ps,ful y=true
 sub:∀y∈ps,∀z,Inr (y++ws) z->Inr (c++ws) z
 off:∀y∈ps,∀s∈S,Ce.ful s=true->∀z,Ins (y++ws) z->Inr (s++ws) z->False
 dis:ps.Pairwise λa b=>∀z,Ins (a++ws) z->Ins (b++ws) z->False
 cov:∀z,Inr (c++ws) z->(∃y∈ps,Inr (y++ws) z)\/∃s∈S,Ce.ful s=true/\Inr (s++ws) z
theorem pe0{c:List Pln}:Pcs c [] (if ful c then [lean c] else [])\/ful c=false:=by
 cases hf:ful c with
 |false=>exact .inr rfl
 |true =>
  refine .inl ⟨λy hy=>?_,λy hy z hz=>?_,λ_ _ s hs=>(by cases hs),?_,λz hz=>.inl ⟨lean c,by simp,(Aa9 hf).2 hz⟩⟩
  ·rw[if_pos rfl] at hy;rw[Qje.1 hy];exact Zc8 hf
  ·rw[if_pos rfl] at hy;rw[Qje.1 hy] at hz;exact (Aa9 hf).1 hz
  ·rw[if_pos rfl];exact Qju _ _
theorem ec6{a c:List Pln}(ha:ful a=true)(hc:ful c=true)(h:apart a c=false):∃z,Ins (a++ws) z/\Ins (c++ws) z:=by
 apply Qjaz;intro hn
 have:=(cb6 (D9.1 ha).1 (D9.1 hc).1).2 λz z1 z2=>hn ⟨z,z1,z2⟩
 rw[h] at this;cases this
theorem ge6 {q x : List Pln} (hq : ful q = true) (hx : ful x = true) (h48 : Ha4 q x = true) :
  (∀y∈qa2 q x,ful y=true/\(∀z,Inr (y++ws) z->Inr (x++ws) z)/\∀z,Ins (y++ws) z->Inr (q++ws) z->False) /\
  ((qa2 q x).Pairwise λa b=>∀z,Ins (a++ws) z->Ins (b++ws) z->False) /\
  ∀z,Inr (x++ws) z->(∃y∈qa2 q x,Inr (y++ws) z)\/Inr (q++ws) z:=by
 unfold qa2;cases ha:apart x q with
 |true =>
  rw[if_pos rfl];refine⟨λy hy=>?_,Qju _ _,λz hz=>.inl ⟨x,by simp,hz⟩⟩
  rw[Qje.1 hy];refine⟨hx,λ_ h=>h,λz z1 z2=>?_⟩
  obtain⟨_,z0,h0⟩:=D9.1 hq;obtain⟨u,hu⟩:=gf8 z2 h0 (x++ws) z1.h;exact (cb6 (D9.1 hx).1 (D9.1 hq).1).1 ha u (hu.mono λp hp=>Qjd _ hp) (hu.mono λp hp=>Qjb _ hp)
 |false =>
  rw[if_neg (by decide)]
  unfold Ha4 at h48;rw[ha,Bool.false_or] at h48;obtain⟨z0,z1,z2⟩:=ec6 hx hq ha;have hf:∀p∈lean q,okp p=true:=λp hp=>kb1 (D9.1 hq).1 p (Qjb _ (ga1 hp))
  obtain⟨o1,o2⟩:=hf0 (D9.1 hx).1 hf z1 ((Xa9 hq).2 z2) h48;refine⟨λy hy=>⟨(o1 y hy).1,(o1 y hy).2.1,λz a1 a2=>(o1 y hy).2.2 z a1 ((Aa9 hq).2 a2)⟩,o2,λz hz=>?_⟩
  rcases ge5 (D9.1 hx).1 hf z1 ((Xa9 hq).2 z2) h48 _ (Qjn _) z hz with h|h
  ·exact .inl h
  ·refine .inr ((Aa9 hq).1 ⟨hz.w,λp hp=>?_⟩)
   rcases Qjc.1 hp with hp|hp
   ·obtain⟨i,hi,rfl⟩:=List.getElem_of_mem hp
    have:=h i hi
    rw[show gL tP (lean q) i=(lean q)[i] by simp[gL,Qjat,List.getElem?_eq_getElem hi]] at this
    exact this
   ·exact hz.h p (Qjd _ hp)
theorem Zd2{c:List Pln}{S ps ps':List (List Pln)}{q:List Pln}(h:Pcs c S ps)(hw:E8 ps q=some ps'):Pcs c (S++[q]) ps':=by
 unfold E8 at hw;cases hq:ful q with
 |false =>
  rw[hq,if_neg (by decide)] at hw
  injection hw with hw;subst hw;refine⟨h.ful,h.sub,λy hy s hs hf=>?_,h.dis,λz hz=>?_⟩
  ·rcases Qjc.1 hs with hs|hs
   ·exact h.off y hy s hs hf
   ·rw[Qje.1 hs,hq] at hf;cases hf
  ·exact (h.cov z hz).imp id λ⟨s,hs,h⟩=>⟨s,Qjb _ hs,h⟩
 |true =>
  rw[hq,if_pos rfl] at hw
  split at hw
  case isFalse=>cases hw
  rename_i hr;injection hw with hw;subst hw;rw[Qjq,Qjt] at hr;have hp:=λx (hx:x∈ps)=>ge6 hq (h.ful x hx) (hr.1 x hx)
  refine⟨λy hy=>?_,λy hy=>?_,λy hy s hs hf z z1 z2=>?_,?_,λz hz=>?_⟩
  ·obtain⟨x,hx,hy⟩:=Qjal.1 hy;exact ((hp x hx).1 y hy).1
  ·obtain⟨x,hx,hy⟩:=Qjal.1 hy;exact λz hz=>h.sub x hx z (((hp x hx).1 y hy).2.1 z hz)
  ·obtain⟨x,hx,hy⟩:=Qjal.1 hy;obtain⟨k1,k2,k3⟩:=(hp x hx).1 y hy
   rcases Qjc.1 hs with hs|hs
   ·-- gf8 z there are inner points of the piece that are inner points of x
    have zx:Ins (x++ws) z:=by
     obtain⟨_,x0,hx0⟩:=D9.1 (h.ful x hx);refine⟨z1.w,λp hp=>?_⟩
     have h0:=(k2 z z1.inr).h p hp;by_cases e:rmZ p z=0
     ·exfalso;obtain⟨N,hN,hi⟩:=Ee2 z1 p.n;have h1:=(k2 _ hi.inr).h p hp;rw[zd6,e] at h1
      have:=Zc7 (Ee1 (kb1 (D9.1 (h.ful x hx)).1 p hp))
      omega
     ·omega
    exact h.off x hx s hs hf z zx z2
   ·rw[Qje.1 hs] at z2;exact k3 z z1 z2
  ·rw[List.pairwise_flatMap];refine⟨λx hx=>(hp x hx).2.1,h.dis.imp_of_mem λ{a b} ha hb hab u hu v hv z z1 z2=>?_⟩
   have up:∀{x u:List Pln},x∈ps->u∈qa2 q x->Ins (u++ws) z->Ins (x++ws) z:=λ{x u} hx hu z1=>by
    obtain⟨k1,k2,k3⟩:=(hp x hx).1 u hu;refine⟨z1.w,λp hp=>?_⟩
    have h0:=(k2 z z1.inr).h p hp;by_cases e:rmZ p z=0
    ·exfalso;obtain⟨N,hN,hi⟩:=Ee2 z1 p.n;have h1:=(k2 _ hi.inr).h p hp;rw[zd6,e] at h1
     have:=Zc7 (Ee1 (kb1 (D9.1 (h.ful x hx)).1 p hp))
     omega
    ·omega
   exact hab z (up ha hu z1) (up hb hv z2)
  ·rcases h.cov z hz with⟨x,hx,hxz⟩|⟨s,hs,h'⟩
   ·rcases (hp x hx).2.2 z hxz with⟨y,hy,hyz⟩|h'
    ·exact .inl ⟨y,Qjal.2 ⟨x,hx,hy⟩,hyz⟩
    ·exact .inr ⟨q,by simp,hq,h'⟩
   ·exact .inr ⟨s,Qjb _ hs,h'⟩
theorem Qb9(s:List (List Pln)):s.foldl (λst q=>st.bind λps=>E8 ps q) none=none:=by
 induction s with
 |nil=>rfl
 |cons q s ih=>exact ih
theorem ad1{c:List Pln}:∀(s S ps:List (List Pln)) (r:List (List Pln)),Pcs c S ps->s.foldl (λst q=>st.bind λps=>E8 ps q) (some ps)=some r->Pcs c (S++s) r
 |[],S,ps,r,h,e=>by injection e with e;subst e;rw[Qjaa];exact h
 |q::s,S,ps,r,h,e=>by
  have e:s.foldl (λst q=>st.bind λps=>E8 ps q) (E8 ps q)=some r:=e
  cases hw:E8 ps q with
  |none=>rw[hw,Qb9] at e;cases e
  |some ps' =>
   rw[hw] at e
   have:=ad1 s (S++[q]) ps' r (Zd2 h hw) e
   rw[Qjac] at this;exact this
theorem Ee3{c:List Pln}{s r:List (List Pln)}(hc:ful c=true)(h:la4 c s=some r):Pcs c s r:=by
 have hs:Pcs c [] (if ful c then [lean c] else []):=pe0.resolve_right (by rw[hc];decide)
 exact ad1 s [] _ r hs h
theorem pe1{c:List Pln}{s r:List (List Pln)}(hc:ful c=true)(h:la4 c s=some r):r=[]↔∀z,Inr (c++ws) z->∃q∈s,ful q=true/\Inr (q++ws) z:=by
 have hp:=Ee3 hc h;constructor
 ·rintro rfl z hz;exact (hp.cov z hz).resolve_left λ⟨_,hy,_⟩=>by cases hy
 ·intro hall;cases r with
  |nil=>rfl
  |cons y r =>
   exfalso;obtain⟨_,z,hz⟩:=D9.1 (hp.ful y (by simp))
   obtain⟨q,hq,hf,hi⟩:=hall z (hp.sub y (by simp) z hz.inr)
   exact hp.off y (by simp) q hq hf z hz hi
set_option maxRecDepth 100000
noncomputable def zd7:List (Nat×Sum):=[]
theorem id4:g9 prog G zd7:=trivial
noncomputable def ac4(x:V3)(y:V3):V3:=(⟨W (x.x-y.x),W (x.y-y.y),W (x.z-y.z)⟩:V3)
noncomputable def Hc8:Sum:=ta3 (oa3 tV) (oa3 tV) (λx y=>.ret ((one r1V).enc (ac4 x y),[]))
theorem zd8:e7 prog G 108 Hc8:=Ia9 (bd wf0 id4) λx y=>A7 (by kernel_rfl)
noncomputable def id5:List (Nat×Sum):=[(108,Hc8)]
theorem ad2:g9 prog G id5:=⟨zd8,trivial⟩
noncomputable def Ya0(x:Pln):Pln:=let t1:=(ac4 (⟨0,0,0⟩:V3) x.n);(⟨t1,W (0-x.b)⟩:Pln)
noncomputable def wc3:Sum:=ca7 (oa3 tP) (λx=>.ret ((one r1P).enc (Ya0 x),[]))
theorem id6:e7 prog G 52 wc3:=Kb5 (bd b52 ad2) λx=>A7 (by kernel_rfl)
end Go.Ev.Ce
