/- Own work. -/
import Derived.Test.YtkfaiccnekeklaaEvOaJ2
set_option linter.all false
def Qja:=@List.all_eq_true
def Qjb:=@List.mem_map
def Qjc:=@Classical.byContradiction
def Qjd:=@List.length_append
def Qje:=@List.length_take
def Qjf:=@List.any_eq_true
def Qjg:=@Nat.lt_irrefl
def Qjh:=@Nat.zero_add
def Qji:=@Int.mul_zero
def Qjj:=@Bool.false_eq_true
def Qjk:=@List.mem_filter
def Qjl:=@Nat.zero_le
def Qjm:=@List.mem_cons
def Qjn:=@List.mem_cons_self
def Qjo:=@Int.mul_neg_of_pos_of_neg
def Qjp:=@Nat.le_refl
def Qjq:=@Int.mul_eq_zero
def Qjr:=@Int.sub_self
def Qjs:=@List.drop_zero
def Qjt:=@List.append_nil
def Qju:=@Int.mul_nonpos_of_nonneg_of_nonpos
def Qjv:=@Bool.and_eq_true
def Qjw:=@Int.zero_mul
def Qjx:=@List.filter_cons
def Qjy:=@List.pairwise_cons
def Qjz:=@List.filter_append
def Qjaa:=@List.take_append_of_le_length
def Qjab:=@List.mem_range
def Qjac:=@List.findIdx_getElem
def Qjad:=@List.getD_eq_getElem?_getD
def Qjae:=@List.mem_append
def Qjaf:=@Int.eq_of_mul_eq_mul_left
def Qjag:=@List.take_succ_eq_append_getElem
def Qjah:=@Bool.not_eq_true
def Qjai:=@List.findIdx_lt_length_of_exists
def Qjaj:=@List.length_filter_le
def Qjak:=@List.length_set
def Qjal:=@Int.mul_le_mul_of_nonneg_left
def Qjam:=@Int.mul_pos
def Qjan:=@Bool.and_self
def Qjao:=@Int.mul_lt_mul_of_pos_left
def Qjap:=@List.drop_eq_getElem_cons
def Qjaq:=@Nat.ble_eq
def Qjar:=@Int.mul_pos_of_neg_of_neg
def Qjas:=@List.length_drop
def Qjat:=@Int.add_zero
def Qjau:=@Int.zero_add
def Qjav:=@List.not_all_eq_any_not
def Qjaw:=@List.drop_eq_nil_of_le
def Qjax:=@Int.le_refl
def Qjay:=@Int.neg_mul
def Qjaz:=@List.getElem_set_self
def Qjba:=@List.take_take
def Qjbb:=@List.length_replicate
def Qjbc:=@Int.eq_of_sub_eq_zero
def Qjbd:=@Go.Ev.Ce.V3.ext'
namespace Go.Ev.Ce
open Go Go.Ev Go.Ev.L Go.Proofs Go.Sort
def eqV(x y:V3):Bool:=x.x==y.x&&(x.y==y.y&&(x.z==y.z&&true))
theorem bb7(x y:V3):eqV x y=true↔x=y:=by
 unfold eqV;simp only[Bool.and_true,Qjv,beq_iff_eq];refine⟨λ⟨h1,h2,h3⟩=>Qjbd h1 h2 h3,λh=>by subst h;exact⟨rfl,rfl,rfl⟩⟩
theorem jc2{l:List V3}{j:Nat}(h:j<l.length):ldR tV (bL tV l) (0+j)=true:=by rw[Qjh];exact Tc1 tV h
theorem Ob0{l:List V3}{j:Nat}(h:j<l.length):rdR tV (bL tV l) (0+j)=gL tV l j:=by rw[Qjh];exact Tc0 tV h
theorem Nc7(l:List V3)(n:Nat):D2 (bL tV l) n=bL tV (l.take n):=by unfold bL;rw[D8,j9,j9,List.map_take]
theorem jc3(l:List V3)(n:Nat):i7 (bL tV l) n=bL tV (l.drop n):=by unfold bL;rw[B9,j9,j9,List.map_drop]
theorem Nc8(n:Nat):List.replicate n [i 0,i 0,i 0]=bL tV (List.replicate n ⟨0,0,0⟩):=by unfold bL;rw[j9,List.map_replicate];rfl
def dvF:V3->List V3->List V3
 |_,[]=>[]
 |a,x::l=>if eqV x a then dvF x l else x::dvF x l
def ddV:List V3->List V3
 |[]=>[]
 |x::l=>x::dvF x l
structure yd2(l:List V3)(n:Nat)(cur:List V3)(m j:Nat)(R:List V3):Prop where
 len:cur.length=l.length
 t:cur.take m++dvF (gL tV l (j-1)) ((l.take n).drop j)=R
 d:cur.drop (j-1)=l.drop (j-1)
 le:m+1<=j
theorem pc2 (l : List V3) (n o : Nat) (hn : n ≤ l.length) (hl : l.length ≤ 1000000000) (ho : o < n) (m : Nat) (cur : List V3) (R : List V3) (hd : yd2 l n cur m (o + 1) R) :
  ∃t s,lp (o2 ⟨n,0+o,n-o⟩) ⟨(m:Int),((1:Nat):Int),bL tV cur⟩=(t,s)/\(t=1/\∃m' cur' k,s=⟨((m':Nat):Int),k,bL tV cur'⟩/\cur'.length=l.length/\cur'.take m'=R/\m'<=n):=by
 refine V7 (step:=o2 ⟨n,0+o,n-o⟩) (mk:=λj (x:Nat×List V3)=>(⟨(x.1:Int),(j:Int),bL tV x.2⟩:n7)) (n-o) (λj x=>yd2 l n x.2 x.1 (o+j) R/\1<=j/\x.1<=n) (λt s=>t=1/\∃m' cur' k,s=⟨((m':Nat):Int),k,bL tV cur'⟩/\cur'.length=l.length/\cur'.take m'=R/\m'<=n) (by omega) (λj x hj hx=>?_) (λj x hj hx=>?_) 1 (m,cur) ⟨hd,Qjp _,by have:=hd.le;show m<=n;omega⟩
 ·obtain⟨m,cur⟩:=x;obtain⟨⟨h1,h2,h3,h4⟩,hj1,hmn⟩:=hx
  simp only at h1 h2 h3 h4 hmn
  have hoj:o+j<n:=by omega
  have hjc:o+j<cur.length:=by omega
  have hjc':o+(j-1)<cur.length:=by omega
  have hmc:m<cur.length:=by omega
  have hg':gL tV cur (o+(j-1))=gL tV l (o+j-1):=by rw[show o+(j-1)=o+j-1 by omega];exact Nb2 tV h3
  have hd1:cur.drop (o+j)=l.drop (o+j):=by have:=Fb1 h3 1;rw[show o+j-1+1=o+j by omega] at this;exact this
  have hg:gL tV cur (o+j)=gL tV l (o+j):=Nb2 tV hd1;have hWm:W ((m:Int)+1)=((m+1:Nat):Int):=by rw[na2 (by omega) (by omega)];omega
  have hWj:W ((j:Int)-1)=((j-1:Nat):Int):=by rw[na2 (by omega) (by omega)];omega
  have hb:Nat.blt m cur.length=true:=by rw[Nat.blt_eq];exact hmc
  have hrow:l9 (bL tV cur) m=tV.row (gL tV cur m):=ba0 tV hmc;have sp:∀(v:V3) (x1 x2 x3:Int),aa6 (tV.row v) 0 [i x1,i x2,i x3]=tV.row ⟨x1,x2,x3⟩:=λ_ _ _ _=>rfl
  have rl:∀v:V3,Nat.ble 3 (len (tV.row v))=true:=λ_=>rfl
  simp only[o2,G4,Int.toNat_natCast,Qjh,hWj,Tc1 tV hjc,Tc1 tV hjc',Tc0 tV hjc,Tc0 tV hjc',J0 hj (show n-o<=4611686018427387904 by omega),hWm,hg,hg',hrow,Ra8,hb,sp,rl,Ic3,k8 (show m<n by omega)]
  rw[btD (B7 hj)];simp only[k8 hj,k8 (show j-1<n-o by omega),J1,Qjan]
  rw[show ((gL tV l (o+j)).x==(gL tV l (o+j-1)).x&&((gL tV l (o+j)).y==(gL tV l (o+j-1)).y&&((gL tV l (o+j)).z==(gL tV l (o+j-1)).z&&true)))=eqV (gL tV l (o+j)) (gL tV l (o+j-1)) from rfl]
  have hcons:(l.take n).drop (o+j)=gL tV l (o+j)::(l.take n).drop (o+(j+1)):=by
   rw[Qjap (by rw[Qje];omega),List.getElem_take,eb1 tV (by omega)]
   rfl
  rw[hcons] at h2;have hlast:o+(j+1)-1=o+j:=by omega
  unfold dvF at h2;cases he:eqV (gL tV l (o+j)) (gL tV l (o+j-1)) with
  |true =>
   rw[he] at h2;simp only[if_true] at h2;refine .nx ⟨(m,cur),rfl,⟨⟨h1,?_,?_,by show m+1<=o+(j+1);omega⟩,by omega,hmn⟩⟩
   ·rw[hlast];exact h2
   ·rw[hlast];exact hd1
  |false =>
   rw[he] at h2;simp only[Qjj,if_false] at h2;refine .nx ⟨(m+1,cur.set m (gL tV l (o+j))),rfl,⟨⟨by rw[Qjak];exact h1,?_,?_,by show m+1+1<=o+(j+1);omega⟩,by omega,by show m+1<=n;omega⟩⟩
   ·rw[hlast];show (cur.set m (gL tV l (o+j))).take (m+1)++_=R;rw[Qjag (by rw[Qjak];exact hmc),Qjaz,List.take_set_of_le (Qjp _),List.append_assoc]
    exact h2
   ·rw[hlast];show (cur.set m (gL tV l (o+j))).drop (o+j)=_;rw[List.drop_set_of_lt (by omega),hd1]
 ·obtain⟨m,cur⟩:=x;obtain⟨⟨h1,h2,h3,h4⟩,hj1,hmn⟩:=hx
  simp only at h1 h2 h3 h4 hmn
  refine⟨1,?_,rfl,m,cur,_,rfl,h1,?_,hmn⟩
  ·simp only[o2,G4];rw[bfD (by omega)]
  ·rw[Qjaw (by rw[Qje];omega)] at h2
   unfold dvF at h2;rw[Qjt] at h2;exact h2
theorem Nc9 (l : List V3) (n : Nat) (hn : n ≤ l.length) (hl : l.length ≤ 1000000000) :
  ∃m r,I7 ⟨n,bL tV l⟩=⟨1,m,bL tV r⟩/\m<=r.length/\r.take m=ddV (l.take n)/\r.length=l.length:=by
 unfold I7 I6
 simp only
 by_cases h2:(n:Int)<2
 ·rw[btD h2];refine⟨n,l,rfl,hn,?_,rfl⟩
  have:n=0\/n=1:=by omega
  rcases this with rfl|rfl
  ·rfl
  ·cases l with
   |nil=>rfl
   |cons x l=>rfl
 ·rw[bfD h2];have h1n:1<=n:=by omega
  have hI : ∀ j, j < n → 1 ≤ j → l.take j ++ dvF (gL tV l (j - 1)) ((l.take n).drop j) = ddV (l.take n) →
    (eqV (gL tV l j) (gL tV l (j-1))=true->yd2 l n l j (j+1) (ddV (l.take n)))/\(eqV (gL tV l j) (gL tV l (j-1))=false->l.take (j+1)++dvF (gL tV l (j+1-1)) ((l.take n).drop (j+1))=ddV (l.take n)):=by
   intro j hj hj1 hR;have hcons:(l.take n).drop j=gL tV l j::(l.take n).drop (j+1):=by
    rw[Qjap (by rw[Qje];omega),List.getElem_take,eb1 tV (by omega)]
   rw[hcons] at hR;unfold dvF at hR;constructor
   ·intro he;rw[he] at hR;simp only[if_true] at hR;exact⟨rfl,hR,rfl,Qjp _⟩
   ·intro he;rw[he] at hR;simp only[Qjj,if_false] at hR;rw[bb5 tV (show j<l.length by omega),List.append_assoc]
    exact hR
  have inner:∀k,k<n->1<=k->yd2 l n l k (k+1) (ddV (l.take n))->∃m' cur' k',lp (o2 ⟨n,0+k,n-k⟩) ⟨(k:Int),1,bL tV l⟩=(1,⟨((m':Nat):Int),k',bL tV cur'⟩)/\cur'.length=l.length/\cur'.take m'=ddV (l.take n)/\m'<=n:=by
   intro k hk hk1 hc;obtain⟨t,s,e1,rfl,m',cur',k',rfl,e2,e3,e4⟩:=pc2 l n k hn hl hk k l _ hc;exact⟨m',cur',k',e1,e2,e3,e4⟩
  have key:=V7 (step:=I5 ⟨n,bL tV l⟩) (mk:=λj (_:Unit)=>(⟨(j:Int)⟩:o8)) n (λj _=>1<=j/\j<=n/\l.take j++dvF (gL tV l (j-1)) ((l.take n).drop j)=ddV (l.take n))
   (λt s=>(t=1/\∃k:Nat,s=⟨(k:Int)⟩/\k<n/\1<=k/\yd2 l n l k (k+1) (ddV (l.take n)))\/(t=2/\l.take n=ddV (l.take n))) (by omega) (λj x hj hx=>?_) (λj x hj hx=>?_) 1 () ⟨Qjp _,h1n,by
    cases l with
    |nil=>simp only[List.length_nil] at hn;omega
    |cons x l =>
     cases n with
     |zero=>omega
     |succ n=>rfl⟩
  ·obtain⟨t,s,e1,e2⟩:=key;rw[show (⟨1⟩:o8)=⟨((1:Nat):Int)⟩ from rfl,e1]
   rcases e2 with⟨rfl,k,rfl,hk,hk1,hc⟩|⟨rfl,he⟩
   ·obtain⟨m',cur',k',e2,e3,e4,e5⟩:=inner k hk hk1 hc;simp only[Int.toNat_natCast,e2];simp only[Qjh,Nat.sub_zero];refine⟨m',cur'.take m'++(List.replicate (n-m') ⟨0,0,0⟩++cur'.drop (m'+(n-m'))),?_,?_,?_,?_⟩
    ·rw[Nc7,Nc8,jc3,Ra9,Ra9];rfl
    ·rw[Qjd,Qje,e3];omega
    ·rw[Qjaa (by rw[Qje,e3];omega),Qjba,Nat.min_self,e4]
    ·rw[Qjd,Qjd,Qje,Qjbb,Qjas,e3];omega
   ·exact⟨n,l,rfl,hn,he,rfl⟩
  ·obtain⟨hj1,hjn,hR⟩:=hx;obtain⟨i1,i2⟩:=hI j hj hj1 hR;have hWj:W ((j:Int)-1)=((j-1:Nat):Int):=by rw[na2 (by omega) (by omega)];omega
   have hjl:j<l.length:=by omega
   have hjl':j-1<l.length:=by omega
   simp only[I5,G5,Int.toNat_natCast,hWj,jc2 hjl,jc2 hjl',Ob0 hjl,Ob0 hjl',J0 hj (show n<=4611686018427387904 by omega)]
   rw[btD (B7 hj),bt (k8 hj),bt (k8 (show j-1<n by omega)),bt (k8 (show j<n+1 by omega))]
   simp only[J1];rw[show ((gL tV l j).x==(gL tV l (j-1)).x&&((gL tV l j).y==(gL tV l (j-1)).y&&((gL tV l j).z==(gL tV l (j-1)).z&&true)))=eqV (gL tV l j) (gL tV l (j-1)) from rfl]
   cases he:eqV (gL tV l j) (gL tV l (j-1)) with
   |false=>exact .nx ⟨(),rfl,by omega,by omega,i2 he⟩
   |true =>
    obtain⟨m',cur',k',e2,e3,e4,e5⟩:=inner j hj hj1 (i1 he);rw[e2];simp only[k8 (show m'<n+1 by omega)]
    exact .ex (.inl ⟨rfl,j,rfl,hj,hj1,i1 he⟩)
  ·obtain⟨hj1,hjn,hR⟩:=hx;refine⟨2,?_,.inr ⟨rfl,?_⟩⟩
   ·simp only[I5,G5];rw[bfD (by omega)]
   ·have:j=n:=by omega
    subst this;rw[Qjaw (by rw[Qje];omega)] at hR
    unfold dvF at hR;rw[Qjt] at hR;exact hR
def yd3(l:List V3):Prop:=l.Pairwise LtV
theorem Ob1{x y z:V3}(h1:LtV x y)(h2:LtV y z):LtV x z:=by unfold LtV at *;omega
theorem Gb3(x:V3):¬ LtV x x:=by unfold LtV;omega
theorem Md2(x y:V3):LtV x y\/x=y\/LtV y x:=by
 by_cases h1:LtV x y
 ·exact .inl h1
 ·by_cases h2:LtV y x
  ·exact .inr (.inr h2)
  ·refine .inr (.inl ?_);unfold LtV at h1 h2;exact Qjbd (by omega) (by omega) (by omega)
theorem Wc5(l:List V3):List.Perm (eb2 l) l:=List.mergeSort_perm l _
theorem md6(x y z:V3)(h1:(!ltOf Ta3 y x)=true)(h2:(!ltOf Ta3 z y)=true):(!ltOf Ta3 z x)=true:=by
 rw[sa2] at *
 simp only[Bool.not_eq_true',decide_eq_false_iff_not] at *
 unfold LtV at *
 omega
theorem md7(x y:V3):((!ltOf Ta3 y x)||(!ltOf Ta3 x y))=true:=by
 rw[sa2,sa2];by_cases h:LtV y x
 ·have h2:¬ LtV x y:=λh2=>Gb3 x (Ob1 h2 h)
  simp[h2]
 ·simp[h]
theorem Cc0(l:List V3):(eb2 l).Pairwise λx y=>(!ltOf Ta3 y x)=true:=List.pairwise_mergeSort md6 md7 l
theorem dd2(p:V3):∀(a:V3) (l:List V3),p∈a::dvF a l↔p∈a::l
 |a,[]=>by simp[dvF]
 |a,x::l=>by
  have ih:=dd2 p x l;unfold dvF;split
  ·rename_i h;rw[bb7] at h;subst h;rw[ih];simp
  ·simp only[Qjm] at ih ⊢;rw[ih]
theorem ae2(p:V3):∀l:List V3,p∈ddV l↔p∈l
 |[]=>Iff.rfl
 |x::l=>dd2 p x l
theorem dd3:∀(a:V3) (l:List V3),(a::l).Pairwise (λx y=>(!ltOf Ta3 y x)=true)->yd3 (a::dvF a l)
 |a,[],_=>List.pairwise_singleton _ _
 |a,x::l,h=>by
  obtain⟨h1,h2⟩:=Qjy.1 h;have ih:=dd3 x l h2;have hle:=h1 x Qjn;rw[sa2] at hle;have hle:¬ LtV x a:=by simpa using hle
  unfold dvF;split
  ·rename_i he;rw[bb7] at he;subst he;exact ih
  ·rename_i hne;have hlt:LtV a x:=by
    rcases Md2 a x with h|h|h
    ·exact h
    ·exact absurd ((bb7 _ _).2 h.symm) hne
    ·exact absurd h hle
   refine Qjy.2 ⟨λp hp=>?_,ih⟩
   rcases Qjm.1 hp with e|hp'
   ·subst e;exact hlt
   ·exact Ob1 hlt ((Qjy.1 ih).1 p hp')
theorem Wc6(l:List V3):yd3 (ddV (eb2 l)):=by
 have h:=Cc0 l;cases hs:eb2 l with
 |nil=>exact .nil
 |cons a l'=>rw[hs] at h;exact dd3 a l' h
noncomputable def dis(l:List V3):List V3:=ddV (eb2 l)
theorem pb4(l:List V3)(v:V3):v∈dis l↔v∈l:=by unfold dis;rw[ae2,(Wc5 l).mem_iff]
theorem uc7(l:List V3):(dis l).Nodup:=List.Pairwise.imp (λ{x y} (h:LtV x y) (e:x=y)=>Gb3 y (e ▸ h)) (Wc6 l)
theorem Cc1(l:List V3):(dis l).length<=l.length:=by
 have:=List.Nodup.length_le_of_subset (uc7 l) (λv hv=>(pb4 l v).1 hv)
 exact this
theorem uc8(l:List V3)(n:Nat)(hn:n<=l.length):slR tV (bL tV l) 0 n=l.take n:=Ib8 tV (by rw[Qje];omega) λk hk=>by
 rw[Qjh,ba0 tV (by omega)]
 congr 1;simp[gL,Qjad,List.getElem?_take,hk]
theorem Ob2(l:List V3)(n:Nat)(hn:n<=l.length):okS tV (bL tV l) 0 n=true:=Ra7 tV (f:=λk=>gL tV l k) λk hk=>by rw[Qjh,ba0 tV (by omega)]
theorem uc9(a:V3)(l:List V3)(hl:l.length<=1000000):V0 (a,l)=⟨1,(a::l).length,bL tV (a::l)⟩:=by
 have ec:o9 (λk=>tV.row (gL tV (a::l) k)) (List.range (l.length+1))=bL tV (a::l):=rd0 tV (a::l)
 unfold V0 M4;simp only[ec,Ra8];have r:Nat.ble ((0+(a::l).length)*24) room=true:=by rw[Qjaq];unfold room;simp only[List.length_cons];omega
 rw[r,Qjh];rfl
theorem Gb4(a:V3)(l:List V3)(hl:l.length<=1000000):∃m r,I7 ⟨(a::l).length,app (bL tV (eb2 (slR tV (bL tV (a::l)) 0 (a::l).length))) (i7 (bL tV (a::l)) (a::l).length)⟩=⟨1,m,bL tV r⟩/\m<=r.length/\r.take m=dis (a::l)/\r.length=l.length+1:=by
 have hs:(eb2 (a::l)).length=(a::l).length:=uc3 _;rw[zc4,jc3,Ra9];obtain⟨m,r,k1,k2,k3,k4⟩:=Nc9 (eb2 (a::l)++(a::l).drop (a::l).length) (a::l).length (by rw[Qjd,hs];omega) (by rw[Qjd,hs,Qjas];simp only[List.length_cons];omega)
 refine⟨m,r,k1,k2,?_,by rw[k4,Qjd,hs,Qjas];simp only[List.length_cons];omega⟩
 rw[k3,Qjaa (by rw[hs];omega),List.take_of_length_le (by rw[hs];omega)]
 rfl
theorem Oc0(l:List V3)(hl:l.length<=2000000)(r:List V3):(Bool.and (Nat.ble l.length room) (Bool.and (Nat.ble l.length (len (bL tV (l++r)))) (okS tV (bL tV (l++r)) 0 l.length)))=true:=by
 rw[Ob2 _ _ (by rw[Qjd];omega),Ra8,Qjv,Qjv,Qjaq,Qjaq]
 refine⟨by unfold room;omega,by rw[Qjd];omega,rfl⟩
theorem Qb7(a:V3)(l:List V3)(hl:l.length<=1000000):Rd (one (r1L tV)) (ea8 (a,l)) (λr=>r=dis (a::l)):=by
 obtain⟨m,r,k1,k2,k3,_⟩:=Gb4 a l hl;have hok:okL tV (l.length+1) (λk=>tV.row (gL tV (a::l) k))=true:=Ra7 tV (f:=λk=>gL tV (a::l) k) λ_ _=>rfl
 have hr:=Oc0 (a::l) (by simp only[List.length_cons];omega) []
 rw[Qjt] at hr;unfold ea8;simp only[ad1,ad2,uc9 a l hl,hok,k1,J1,Nat.beq_refl,hr];refine⟨_,r.take m,rfl,?_,k3⟩;show Bool.rec (motive:=λ_=>Option (List V3)) none (some (slR tV (bL tV r) 0 m)) (Bool.and true (okS tV (bL tV r) 0 m))=_
 rw[uc8 r m k2,Ob2 r m k2];rfl
theorem Wc7(a:V3)(l:List V3)(hl:l.length<=1000000):Da6 (a,l)=dis (a::l):=(Qb7 a l hl).p
theorem Wc8(a:V3)(l:List V3)(hl:l.length<=1000000):Da7 (a,l)=true:=(Qb7 a l hl).g
end Go.Ev.Ce
namespace Go.Ev.Ce
open Go Go.Ev Go.Ev.L Go.Proofs
theorem Oc1(p:Pln)(v:V3):ua5 p v=some (i (da6 p v),[]):=by
 unfold ua5 da6;simp only[Kd9,Ld0,(Nb1 v).1,(Nb1 v).2,bd7,bd8,J1];cases hp:okp p with
 |false=>rfl
 |true =>
  cases hv:inV v with
  |false=>rfl
  |true =>
   have hb:=Mb9 hp;have hd:=Zd2 hb hv;have e:p9 p.n v=dot p.n v:=by
    unfold p9;simp only[xb5,gc8];exact lb3 (hd.mono (by omega))
   rw[e];simp only[Bool.not_true,qd8,Qjan,if_true,Sa2];by_cases h1:dot p.n v<p.b
   ·rw[if_pos h1,if_pos (by omega)]
   ·rw[if_neg h1];by_cases h2:dot p.n v>p.b
    ·rw[if_pos h2,if_neg (by omega),if_pos (by omega)]
    ·rw[if_neg h2,if_neg (by omega),if_neg (by omega)]
theorem Gb5(p:Pln)(v:V3):J2 p v=da6 p v:=by unfold J2;rw[Oc1];rfl
theorem pb5(p:Pln)(v:V3):S6 p v=true:=by unfold S6;rw[Oc1];rfl
theorem Md3{v:V3}(h1:Sm 1000000000000000000 v.x)(h2:Sm 1000000000000000000 v.y)(h3:Sm 1000000000000000000 v.z):R3 [v.x,v.y,v.z]=g3 v/\R4 [v.x,v.y,v.z]=true:=by
 have hd:=ic2 [v.x,v.y,v.z] (by simp) (by
  intro x hx;simp only[Qjm,List.not_mem_nil,or_false] at hx
  rcases hx with rfl|rfl|rfl<;>assumption)
 have hg:([v.x,v.y,v.z].foldl (λg x=>Nat.gcd g x.natAbs) 0:Nat)=Nat.gcd (Nat.gcd v.x.natAbs v.y.natAbs) v.z.natAbs:=by
  simp only[List.foldl_cons,List.foldl_nil,Nat.gcd_zero_left]
 exact⟨by unfold R3;rw[hd,hg];rfl,by unfold R4;rw[hd];rfl⟩
theorem yd4 {v : V3} (h1 : Sm 1000000000000000000 v.x) (h2 : Sm 1000000000000000000 v.y) (h3 : Sm 1000000000000000000 v.z) :
  ua4 v=if g3 v=0 then some (.tup [.agg (tV.row ⟨0,0,0⟩),i 0],[]) else some (.tup [.agg (tV.row ⟨W (Int.tdiv v.x (g3 v)),W (Int.tdiv v.y (g3 v)),W (Int.tdiv v.z (g3 v))⟩),i (g3 v)],[]):=by
 obtain⟨e1,e2⟩:=Md3 h1 h2 h3;unfold ua4;simp only[e1,e2,J1];by_cases h:g3 v=0
 ·rw[if_pos h,bt (by simpa using h)];rfl
 ·rw[if_neg h,bf (by simpa using h),bf (by simpa using h),bf (by simpa using h),bf (by simpa using h)];rfl
theorem Qb8(a c d:V3):ea3 a c d=some (.tup [.agg (tP.row (A8 a c d).1),b (A8 a c d).2],[]):=by
 unfold ea3 A8;simp only[(Nb1 _).1,(Nb1 _).2];cases ha:inV a with
 |false=>rfl
 |true =>
  cases hc:inV c with
  |false=>rfl
  |true =>
   cases hd:inV d with
   |false=>rfl
   |true =>
    obtain⟨e,k1,k2,k3⟩:=Ta8 ha hc hd;have e':q8 (r7 c a) (r7 d a)=a8 (sub c a) (sub d a):=e;rw[e'];generalize a8 (sub c a) (sub d a)=n at *
    have m1:=k1.mono (m:=1000000000000000000) (by omega)
    have m2:=k2.mono (m:=1000000000000000000) (by omega)
    have m3:=k3.mono (m:=1000000000000000000) (by omega)
    have hpr:=yd4 m1 m2 m3;have gp:Fa8 n=true:=by unfold Fa8;rw[hpr];split<;>rfl
    by_cases h0:g3 n=0
    ·have pp:la6 n=(⟨0,0,0⟩,0):=by unfold la6;rw[hpr,if_pos h0];rfl
     have hz:p9 ⟨0,0,0⟩ a=0:=by unfold p9;simp only[Qjw];rfl
     simp only[gp,pp,hz,Qjan,if_true,h0];rfl
    ·have hp:=pb2 n;have q1:=Y6 (g:=g3 n) k1 (by omega)
     have q2:=Y6 (g:=g3 n) k2 (by omega)
     have q3:=Y6 (g:=g3 n) k3 (by omega)
     rw[lb3 (q1.mono (by omega)),lb3 (q2.mono (by omega)),lb3 (q3.mono (by omega))] at hpr
     have pp:la6 n=(⟨Int.tdiv n.x (g3 n),Int.tdiv n.y (g3 n),Int.tdiv n.z (g3 n)⟩,g3 n):=by unfold la6;rw[hpr,if_neg h0];rfl
     have hdot:p9 ⟨Int.tdiv n.x (g3 n),Int.tdiv n.y (g3 n),Int.tdiv n.z (g3 n)⟩ a=dot ⟨Int.tdiv n.x (g3 n),Int.tdiv n.y (g3 n),Int.tdiv n.z (g3 n)⟩ a:=by
      unfold p9;simp only[xb5,gc8];obtain⟨⟨a1,a2⟩,⟨a3,a4⟩,a5,a6⟩:=(qa4 a).1 ha;have r1:=mb q1.1 q1.2 a1 a2;have r2:=mb q2.1 q2.2 a3 a4;have r3:=mb q3.1 q3.2 a5 a6;rw[na2 (by omega) (by omega)]
      rfl
     simp only[gp,pp,hdot,Qjan,if_true,h0,if_false,show g3 n>0 from by omega,decide_true]
     rfl
theorem bb8(a b c:V3):C9 a b c=A8 a b c:=by unfold C9;rw[Qb8];rfl
theorem xb9(a b c:V3):X4 a b c=true:=by unfold X4;rw[Qb8];rfl
theorem yd5(v:V3)(p:Pln):Aa3 ⟨v.x,v.y,v.z,p.n.x,p.n.y,p.n.z,p.b⟩=⟨1,da6 p v != 0⟩:=by
 unfold Aa3 ga1;simp only[Gb5,pb5,J1]
theorem Md4(l:List V3)(p:Pln)(hl:l.length<=1000000000):P2 ⟨l,p.n.x,p.n.y,p.n.z,p.b⟩=⟨1,if l.any (λv=>da6 p v != 0) then ((l.findIdx (λv=>da6 p v != 0):Nat):Int) else -1⟩:=by
 have h:=Qa4 (step:=C1 ⟨l,(l.length:Int),p.n.x,p.n.y,p.n.z,p.b⟩) (mk:=λj=>(⟨(j:Int)⟩:k9)) (c:=λv=>da6 p v != 0) (u:=1) (fin:=2) tV l hl
  (λj hj=>by
   simp only[C1,A2,Int.toNat_natCast,yd5,J0 hj (by omega)]
   rw[bt (gc9 hj),bt (k8 hj)]
   rfl)
  (by simp only[C1,A2];rw[bf (Db9 (Qjg _))]) 0 (Qjl _)
 rw[Qjs] at h;unfold P2 B0;simp only[s8,p8];rw[show (⟨0⟩:k9)=⟨((0:Nat):Int)⟩ from rfl,h]
 split
 ·simp only[Qjh];rfl
 ·rfl
theorem dd4(l:List V3)(p:Pln)(hl:l.length<=1000000000):n9 ⟨l,p.n.x,p.n.y,p.n.z,p.b⟩=⟨1,l.any λv=>da6 p v != 0⟩:=by
 unfold n9 s9;simp only[s8,p8,Md4 l p hl];split
 ·rename_i h;rw[h,show decide (((l.findIdx (λv=>da6 p v != 0):Nat):Int)>=0)=true from decide_eq_true (by omega)];rfl
 ·rename_i h;rw[Qjah] at h;rw[h];rfl
theorem Md5(v:V3)(p:Pln):pa9 ⟨v.x,v.y,v.z,p.n.x,p.n.y,p.n.z,p.b⟩=⟨1,decide (da6 p v>0)⟩:=by
 unfold pa9 X5;simp only[Gb5,pb5,J1]
theorem Md6(l:List V3)(p:Pln)(hl:l.length<=1000000000):P6 ⟨l,p.n.x,p.n.y,p.n.z,p.b⟩=⟨1,if l.any (λv=>decide (da6 p v>0)) then ((l.findIdx (λv=>decide (da6 p v>0)):Nat):Int) else -1⟩:=by
 have h:=Qa4 (step:=C3 ⟨l,(l.length:Int),p.n.x,p.n.y,p.n.z,p.b⟩) (mk:=λj=>(⟨(j:Int)⟩:l5)) (c:=λv=>decide (da6 p v>0)) (u:=1) (fin:=2) tV l hl
  (λj hj=>by
   simp only[C3,A3,Int.toNat_natCast,Md5,J0 hj (by omega)]
   rw[bt (gc9 hj),bt (k8 hj)]
   rfl)
  (by simp only[C3,A3];rw[bf (Db9 (Qjg _))]) 0 (Qjl _)
 rw[Qjs] at h;unfold P6 B1;simp only[s8,p8];rw[show (⟨0⟩:l5)=⟨((0:Nat):Int)⟩ from rfl,h]
 split
 ·simp only[Qjh];rfl
 ·rfl
theorem Md7(l:List V3)(p:Pln)(hl:l.length<=1000000000):J8 ⟨l,p.n.x,p.n.y,p.n.z,p.b⟩=⟨1,l.any λv=>decide (da6 p v>0)⟩:=by
 unfold J8 u7;simp only[s8,p8,Md6 l p hl];split
 ·rename_i h;rw[h,show decide (((l.findIdx (λv=>decide (da6 p v>0)):Nat):Int)>=0)=true from decide_eq_true (by omega)];rfl
 ·rename_i h;rw[Qjah] at h;rw[h];rfl
def bey(l:List V3)(p:Pln):Bool:=l.any λv=>decide (da6 p v>0)
theorem vc0(l:List V3)(p:Pln)(hl:l.length<=1000000000):oa5 l p=some (b (bey l p),[]):=by
 unfold oa5;simp only[s8,p8,Md7 l p hl];rfl
theorem yd6(l:List V3)(p:Pln)(hl:l.length<=1000000000):T6 l p=bey l p:=by unfold T6;rw[vc0 l p hl];rfl
theorem yd7(l:List V3)(p:Pln)(hl:l.length<=1000000000):D1 l p=true:=by unfold D1;rw[vc0 l p hl];rfl
theorem jc4{α:Type}(t:Ty α)(l:List α){j k:Nat}(h:k<j):gL t (l.take j) k=gL t l k:=by
 simp[gL,Qjad,List.getElem?_take,h]
theorem yd8 (l : List V3) (i j : Nat) (hi : i < l.length) (hj : j < i) (hl : l.length ≤ 1000000) :
  lp (J5 ⟨(i:Int),(j:Int),(l.length:Int),(i:Int),(i:Int),(j:Int),(j:Int),l,l⟩) ⟨0⟩ =
   if (l.take j).any (λv=>(A8 v (gL tV l j) (gL tV l i)).2) then (1,⟨((l.take j).findIdx (λv=>(A8 v (gL tV l j) (gL tV l i)).2):Nat)⟩) else (2,⟨(j:Int)⟩):=by
 have hlen:(l.take j).length=j:=by rw[Qje];omega
 have h:=Qa4 (step:=J5 ⟨(i:Int),(j:Int),(l.length:Int),(i:Int),(i:Int),(j:Int),(j:Int),l,l⟩) (mk:=λk=>(⟨(k:Int)⟩:D0)) (c:=λv=>(A8 v (gL tV l j) (gL tV l i)).2) (u:=1) (fin:=2) tV (l.take j) (by omega)
  (λk hk=>by
   rw[hlen] at hk;simp only[J5,ea5,Int.toNat_natCast,bb8,xb9,jc4 tV l hk,s8,p8,dd4 l _ (show l.length<=1000000000 by omega),J0 hk (by omega)]
   rw[btD (B7 hk),bt (k8 (by omega)),bt (k8 (by omega)),bt (k8 hi),J1]
   cases (A8 (gL tV l k) (gL tV l j) (gL tV l i)).2<;>rfl)
  (by rw[hlen];simp only[J5,ea5];rw[bfD (G6 (Qjg _))]) 0 (Qjl _)
 rw[Qjs,hlen] at h;rw[show (⟨0⟩:D0)=⟨((0:Nat):Int)⟩ from rfl,h]
 split
 ·simp only[Qjh]
 ·rfl
def ixs(n:Nat):List Int:=(List.range n).map λk:Nat=>(k:Int)
theorem Ha2(n:Nat):(ixs n).length=n:=by simp[ixs]
theorem dd5{n k:Nat}(h:k<n):gL tI (ixs n) k=(k:Int):=by
 simp[gL,ixs,Qjad,List.getElem?_map,List.getElem?_range h]
noncomputable def sp2(l:List V3)(i:Nat)(m:Int):Bool:=(l.take m.toNat).any λv=>(A8 v (gL tV l m.toNat) (gL tV l i)).2
theorem yd9 (l : List V3) (i : Nat) (hi : i < l.length) (hl : l.length ≤ 1000000) :
  lp (O2 ⟨(i:Int),(l.length:Int),(i:Int),(i:Int)⟩) ⟨0,l,l⟩=if (ixs i).any (sp2 l i) then (1,⟨((ixs i).findIdx (sp2 l i):Nat),l,l⟩) else (2,⟨(i:Int),l,l⟩):=by
 have h:=Qa4 (step:=O2 ⟨(i:Int),(l.length:Int),(i:Int),(i:Int)⟩) (mk:=λj=>(⟨(j:Int),l,l⟩:F9)) (c:=sp2 l i) (u:=1) (fin:=2) tI (ixs i) (by rw[Ha2];omega)
  (λj hj=>by
   rw[Ha2] at hj;simp only[O2,ea6,Int.toNat_natCast,Nat.sub_zero,s8,p8,yd8 l i j hi hj hl,J0 hj (by omega),dd5 hj]
   rw[btD (B7 hj),bt (k8 (by omega))]
   unfold sp2;simp only[Int.toNat_natCast];cases ((l.take j).any λv=>(A8 v (gL tV l j) (gL tV l i)).2)<;>rfl)
  (by rw[Ha2];simp only[O2,ea6];rw[bfD (G6 (Qjg _))]) 0 (Qjl _)
 rw[Qjs,Ha2] at h;rw[show (⟨0,l,l⟩:F9)=⟨((0:Nat):Int),l,l⟩ from rfl,h]
 split
 ·simp only[Qjh]
 ·rfl
noncomputable def sp1(l:List V3)(m:Int):Bool:=(ixs m.toNat).any (sp2 l m.toNat)
theorem ae3 (l : List V3) (hl : l.length ≤ 1000000) :
  lp (ba9 ⟨(l.length:Int)⟩) ⟨0,l,l⟩=if (ixs l.length).any (sp1 l) then (1,⟨((ixs l.length).findIdx (sp1 l):Nat),l,l⟩) else (2,⟨(l.length:Int),l,l⟩):=by
 have h:=Qa4 (step:=ba9 ⟨(l.length:Int)⟩) (mk:=λj=>(⟨(j:Int),l,l⟩:N9)) (c:=sp1 l) (u:=1) (fin:=2) tI (ixs l.length) (by rw[Ha2];omega)
  (λi hi=>by
   rw[Ha2] at hi;simp only[ba9,ea7,Int.toNat_natCast,Nat.sub_zero,s8,p8,yd9 l i hi hl,J0 hi (by omega),dd5 hi]
   rw[btD (B7 hi),bt (k8 (by omega))]
   unfold sp1;simp only[Int.toNat_natCast];cases (ixs i).any (sp2 l i)<;>rfl)
  (by rw[Ha2];simp only[ba9,ea7];rw[bfD (G6 (Qjg _))]) 0 (Qjl _)
 rw[Qjs,Ha2] at h;rw[show (⟨0,l,l⟩:N9)=⟨((0:Nat):Int),l,l⟩ from rfl,h]
 split
 ·simp only[Qjh]
 ·rfl
theorem Cc2{α:Type}{l:List α}{c:α->Bool}(h:l.any c=true):l.findIdx c<l.length:=by
 obtain⟨x,h1,h2⟩:=Qjf.1 h;exact Qjai ⟨x,h1,h2⟩
theorem pb6{n:Nat}{c:Int->Bool}(h:(ixs n).any c=true):(ixs n).findIdx c<n/\c ((ixs n).findIdx c:Nat)=true:=by
 have hlt:=Cc2 h;have h1:=Qjac (xs:=ixs n) (p:=c) (w:=hlt);rw[Ha2] at hlt;refine⟨hlt,?_⟩;simpa [ixs] using h1
noncomputable def iF(l:List V3):Nat:=(ixs l.length).findIdx (sp1 l)
noncomputable def jF(l:List V3):Nat:=(ixs (iF l)).findIdx (sp2 l (iF l))
noncomputable def kF(l:List V3):Nat:=(l.take (jF l)).findIdx (λv=>(A8 v (gL tV l (jF l)) (gL tV l (iF l))).2)
noncomputable def plF(l:List V3):Pln:=(A8 (gL tV l (kF l)) (gL tV l (jF l)) (gL tV l (iF l))).1
noncomputable def tb6(l:List V3):Bool:=if (ixs l.length).any (sp1 l) then !(l.any λv=>da6 (plF l) v != 0) else true
theorem Oc2(l:List V3)(hl:l.length<=1000000):Ba6 l=some (b (tb6 l),[]):=by
 unfold Ba6 tb6;simp only[s8,p8];rw[ae3 l hl];by_cases h:(ixs l.length).any (sp1 l)=true
 ·obtain⟨hi,h1⟩:=pb6 h;have h1:(ixs (iF l)).any (sp2 l (iF l))=true:=h1;obtain⟨hj,h2⟩:=pb6 h1;have h2:(l.take (jF l)).any (λv=>(A8 v (gL tV l (jF l)) (gL tV l (iF l))).2)=true:=h2
  rw[if_pos h,if_pos h];simp only[Int.toNat_natCast,Nat.sub_zero];rw[show (ixs l.length).findIdx (sp1 l)=iF l from rfl,yd9 l (iF l) hi hl,if_pos h1]
  simp only[Int.toNat_natCast,Nat.sub_zero];rw[show (ixs (iF l)).findIdx (sp2 l (iF l))=jF l from rfl,yd8 l (iF l) (jF l) hi hj hl,if_pos h2]
  simp only[Int.toNat_natCast,bb8];rw[show (l.take (jF l)).findIdx (λv=>(A8 v (gL tV l (jF l)) (gL tV l (iF l))).2)=kF l from rfl,show (A8 (gL tV l (kF l)) (gL tV l (jF l)) (gL tV l (iF l))).1=plF l from rfl,dd4 l _ (by omega)]
  rfl
 ·rw[if_neg h,if_neg h];rfl
theorem Md8(l:List V3)(hl:l.length<=1000000):Qa1 l=tb6 l:=by unfold Qa1;rw[Oc2 l hl];rfl
theorem Md9(l:List V3)(hl:l.length<=1000000):Qa2 l=true:=by unfold Qa2;rw[Oc2 l hl];rfl
theorem vc1(v:V3):ia7 v=some (b (!inV v),[]):=by
 unfold ia7;simp only[(Nb1 v).1,(Nb1 v).2,J1]
theorem zd0(v:V3):ua7 v=!inV v:=by unfold ua7;rw[vc1];rfl
theorem zd1(v:V3):ua8 v=true:=by unfold ua8;rw[vc1];rfl
theorem Nd0(l:List V3)(hl:l.length<=1000000000):P9 ⟨l⟩=⟨1,if l.any (λv=>!inV v) then ((l.findIdx (λv=>!inV v):Nat):Int) else -1⟩:=by
 have h:=Qa4 (step:=C4 ⟨l,(l.length:Int)⟩) (mk:=λj=>(⟨(j:Int)⟩:l6)) (c:=λv=>!inV v) (u:=1) (fin:=2) tV l hl
  (λj hj=>by
   simp only[C4,A4,Int.toNat_natCast,zd0,zd1,J0 hj (by omega)]
   rw[bt (gc9 hj),bt (k8 hj),J1])
  (by simp only[C4,A4];rw[bf (Db9 (Qjg _))]) 0 (Qjl _)
 rw[Qjs] at h;unfold P9 B4;simp only[s8,p8];rw[show (⟨0⟩:l6)=⟨((0:Nat):Int)⟩ from rfl,h]
 split
 ·simp only[Qjh];rfl
 ·rfl
theorem Nd1(l:List V3)(hl:l.length<=1000000000):K1 ⟨l⟩=⟨1,l.any λv=>!inV v⟩:=by
 unfold K1 u8;simp only[s8,p8,Nd0 l hl];split
 ·rename_i h;rw[h,show decide (((l.findIdx (λv=>!inV v):Nat):Int)>=0)=true from decide_eq_true (by omega)];rfl
 ·rename_i h;rw[Qjah] at h;rw[h];rfl
noncomputable def ca5(l:List V3):Int:=if (l.length:Int)>48 then 2 else if l.any (λv=>!inV v) then 3 else if tb6 l then 11 else 0
theorem vc2(l:List V3)(hl:l.length<=1000000):ua9 l=some (i (ca5 l),[]):=by
 unfold ua9 ca5;simp only[s8,p8,ta7,Nd1 l (by omega),Md8 l hl,Md9 l hl]
 by_cases h:(l.length:Int)>48
 ·rw[btD h,if_pos h]
 ·rw[bfD h,if_neg h];cases l.any λv=>!inV v with
  |true=>rfl
  |false=>cases tb6 l<;>rfl
theorem jc5(l:List V3)(hl:l.length<=1000000):la7 l=ca5 l:=by unfold la7;rw[vc2 l hl];rfl
theorem jc6(l:List V3)(hl:l.length<=1000000):la8 l=true:=by unfold la8;rw[vc2 l hl];rfl
theorem zd2{p:Pln}(h:Bd p):la5 p=U3 p:=by
 unfold la5 r7 U3
 simp only
 have:=h.x1;have:=h.x2;have:=h.y1;have:=h.y2;have:=h.z1;have:=h.z2;have:=h.b1;have:=h.b2
 rw[na2 (by omega) (by omega),na2 (by omega) (by omega),na2 (by omega) (by omega),na2 (by omega) (by omega)]
 simp only[Int.zero_sub]
noncomputable def Cc3(p:Pln):List a7:=[i p.n.x,i p.n.y,i p.n.z,i p.b,b true]
noncomputable def Qa8(l:List Pln):List (List a7):=l.map Cc3
theorem vc3(x q:Pln):qb0 flK [i x.n.x,i x.n.y,i x.n.z,i x.b] (Cc3 q)=eqP q x:=by
 show Bool.and (decide (x.n.x=q.n.x)) (Bool.and (decide (x.n.y=q.n.y)) (Bool.and (decide (x.n.z=q.n.z)) (Bool.and (decide (x.b=q.b)) true)))=_;unfold eqP;have h:∀a c:Int,decide (a=c)=(c==a):=λa c=>by rw[Bool.eq_iff_iff,decide_eq_true_eq,beq_iff_eq];exact eq_comm
 rw[h,h,h,h]
theorem Oc3(x:Pln):∀l,Ia9 4 [(0,.int .i64),(1,.int .i64),(2,.int .i64),(3,.int .i64)] [i x.n.x,i x.n.y,i x.n.z,i x.b] (Qa8 l)=Fb9 l x
 |[]=>rfl
 |q::l=>by
  have ih:=Oc3 x l;unfold Ia9 at ih ⊢;show Option.rec (motive:=λ_=>Bool) false (λr=>toB (hdA (i7 r 4))) (Bool.rec (motive:=λ_=>Option (List a7)) (Ob8 flK [i x.n.x,i x.n.y,i x.n.z,i x.b] (Qa8 l)) (some (Cc3 q)) (qb0 flK [i x.n.x,i x.n.y,i x.n.z,i x.b] (Cc3 q)))=Fb9 (q::l) x
  rw[vc3];unfold Fb9 at ih ⊢;rw[List.any_cons];cases eqP q x with
  |true=>rfl
  |false=>exact ih
theorem Wc9(x:Pln):∀l,Fb9 l x=false->U6 [(0,.int .i64),(1,.int .i64),(2,.int .i64),(3,.int .i64)] [i x.n.x,i x.n.y,i x.n.z,i x.b] [i x.n.x,i x.n.y,i x.n.z,i x.b,b true] (Qa8 l)=Qa8 (l++[x])
 |[],_=>rfl
 |q::l,h=>by
  unfold Fb9 at h;rw[List.any_cons,Bool.or_eq_false_iff] at h;show Bool.rec (motive:=λ_=>List (List a7)) (Cc3 q::U6 flK [i x.n.x,i x.n.y,i x.n.z,i x.b] (Cc3 x) (Qa8 l)) (Cc3 x::Qa8 l) (qb0 flK [i x.n.x,i x.n.y,i x.n.z,i x.b] (Cc3 q))=_
  rw[vc3,h.1,show U6 flK [i x.n.x,i x.n.y,i x.n.z,i x.b] (Cc3 x) (Qa8 l)=_ from Wc9 x l h.2]
  rfl
noncomputable def yb0(s:List Pln)(p:Pln):List Pln:=if Fb9 s p then s else s++[p]
theorem zd3(s:List Pln)(p q:Pln):q∈yb0 s p↔q∈s\/q=p:=by
 unfold yb0;split
 ·rename_i h;rw[Nc1] at h;exact⟨.inl,λh'=>h'.elim id λe=>e ▸ h⟩
 ·rw[Qjae,List.mem_singleton]
theorem jc7{s:List Pln}{p:Pln}(h:s.Nodup):(yb0 s p).Nodup:=by
 unfold yb0;split
 ·exact h
 ·rename_i hn;rw[Nc1] at hn;rw[List.nodup_append];exact⟨h,by simp,λa ha b hb=>by rw[List.mem_singleton.1 hb];intro e;exact hn (e ▸ ha)⟩
theorem Oc4(s:List Pln)(p:Pln):(yb0 s p).length<=s.length+1:=by
 unfold yb0;split
 ·omega
 ·simp
def fil(l:List V3)(s:List Pln):List Pln:=s.filter λp=>!bey l p
theorem Yb8(l:List V3)(s:List Pln)(p:Pln):fil l (s++[p])=if bey l p then fil l s else fil l s++[p]:=by
 unfold fil;rw[Qjz,Qjx,List.filter_nil];cases bey l p<;>simp
theorem Cc4(l:List V3)(s:List Pln):(fil l s).length<=s.length:=Qjaj _ _
noncomputable def tb7(l:List V3)(a c:Nat)(s:List Pln)(k:Nat):List Pln :=
 if (A8 (gL tV l k) (gL tV l c) (gL tV l a)).2 then yb0 (yb0 s (A8 (gL tV l k) (gL tV l c) (gL tV l a)).1) (U3 (A8 (gL tV l k) (gL tV l c) (gL tV l a)).1) else s
noncomputable def G2(l:List V3)(a:Nat)(s:List Pln)(c:Nat):List Pln:=(List.range c).foldl (tb7 l a c) s
noncomputable def G1(l:List V3)(s:List Pln)(a:Nat):List Pln:=(List.range a).foldl (G2 l a) s
noncomputable def G0(l:List V3):List Pln:=(List.range l.length).foldl (G1 l) []
theorem vc4(l:List V3)(a c:Nat)(s:List Pln)(k:Nat):(tb7 l a c s k).length<=s.length+2:=by
 unfold tb7;split
 ·have h1:=Oc4 (yb0 s (A8 (gL tV l k) (gL tV l c) (gL tV l a)).1) (U3 (A8 (gL tV l k) (gL tV l c) (gL tV l a)).1);have h2:=Oc4 s (A8 (gL tV l k) (gL tV l c) (gL tV l a)).1;omega
 ·omega
theorem ae4(l:List V3)(a:Nat)(s:List Pln)(c:Nat):(G2 l a s c).length<=s.length+2*c:=ic9 (vc4 l a c) s c
theorem Xc0(l:List V3)(a:Nat)(s:List Pln):∀j,j<=a->a<=48->((List.range j).foldl (G2 l a) s).length<=s.length+96*j
 |0,_,_=>Qjp _
 |j+1,h,ha=>by
  rw[D5];have h1:=Xc0 l a s j (by omega) ha
  have h2:=ae4 l a ((List.range j).foldl (G2 l a) s) j;omega
theorem Cc5(l:List V3)(hl:l.length<=48):∀j,j<=l.length->((List.range j).foldl (G1 l) []).length<=5000*j
 |0,_=>Qjp _
 |j+1,h=>by
  rw[D5];have h1:=Cc5 l hl j (by omega)
  have h2:(G1 l ((List.range j).foldl (G1 l) []) j).length<=_:=Xc0 l j ((List.range j).foldl (G1 l) []) j (Qjp _) (by omega)
  omega
@[reducible] noncomputable def mkf(l:List V3)(k:Nat)(s:List Pln):u9:=⟨phP (fil l s),(k:Int),Qa8 s,(fil l s).length,bL tP (fil l s)⟩
theorem Ob3{n:Nat}{l:List Pln}(hn:n=l.length)(h:l.length<=1000000000):(Nat.beq n (len (bL tP l))&&Nat.ble ((n+1)*32) room)=true:=by
 subst hn;rw[Ra8,Nat.beq_refl,Bool.true_and];exact Kd2 (by omega)
theorem dd6(o:List Pln)(x:Pln):phP (o++[x])=1:=by cases o<;>rfl
theorem zd4 (l : List V3) (hl : l.length ≤ 48) (a c k : Nat) (ha : a < l.length) (hc : c < a) (hk : k < c) (x1 x2 x3 x4 : Int) (s : List Pln) (ho : s.length ≤ 900000) :
  L3 ⟨(a:Int),(c:Int),x1,x2,x3,x4,(c:Int),l,l⟩ (mkf l k s)=.next (mkf l (k+1) (tb7 l a c s k)):=by
 have hfl:la5 (A8 (gL tV l k) (gL tV l c) (gL tV l a)).1=U3 (A8 (gL tV l k) (gL tV l c) (gL tV l a)).1:=zd2 (Ld7 _ _ _);have hb:∀p,T6 l p=bey l p:=λp=>yd6 l p (by omega)
 have hg:∀p,D1 l p=true:=λp=>yd7 l p (by omega)
 have hn:=J0 hk (show c<=4611686018427387904 by omega)
 have b1:inB (a:Int) l.length=true:=k8 ha;have b2:inB (c:Int) l.length=true:=k8 (by omega)
 have b3:inB (k:Int) l.length=true:=k8 (by omega)
 have hfl2:=Cc4 l s;unfold tb7;unfold mkf;generalize hT:A8 (gL tV l k) (gL tV l c) (gL tV l a)=T at *
 cases hO:fil l s with
 |nil =>
  show M5 Stp.next Stp.exit Stp.fail _ _=_;simp only[M5,bb8,xb9,Int.toNat_natCast,s8,ta7,hT,hfl,hb,hg,hn,b1,b2,b3,Oc3];rw[btD (B7 hk)];cases h2:T.2 with
  |false=>simp only[Qjj,if_false,hO];rfl
  |true =>
   simp only[if_true,J1];cases h3:Fb9 s T.1 with
   |true =>
    cases h4:Fb9 s (U3 T.1) with
    |true=>simp only[yb0,h3,h4,if_true,hO];rfl
    |false =>
     rw[Wc9 _ _ h4];cases h5:bey l (U3 T.1)<;>(simp only[yb0,h3,h4,h5,if_true,if_false,Qjj,Yb8,hO];rfl)
   |false =>
    simp only[Wc9 _ _ h3,Oc3];cases h5:bey l T.1<;>cases h4:Fb9 (s++[T.1]) (U3 T.1)<;>(try simp only[Wc9 _ _ h4])<;>cases h6:bey l (U3 T.1)<;>(simp only[yb0,h3,h4,h5,h6,if_true,if_false,Qjj,Yb8,hO];rfl)
 |cons q o =>
  have rr:(Nat.beq (q::o).length (len (bL tP (q::o)))&&Nat.ble (((q::o).length+1)*32) room)=true:=Ob3 rfl (by rw[<- hO];omega)
  have ap:∀(O:List Pln) (p:Pln),app (bL tP O) [[i p.n.x,i p.n.y,i p.n.z,i p.b]]=bL tP (O++[p]):=λO p=>Ra9 tP O [p]
  have rr2:∀p:Pln,(Nat.beq ((q::o).length+1) (len (bL tP (q::o++[p])))&&Nat.ble (((q::o).length+1+1)*32) room)=true:=λp=>Ob3 (by simp) (by rw[<- hO,Qjd,List.length_singleton];omega)
  show M6 Stp.next Stp.exit Stp.fail _ _=_;simp only[M6,bb8,xb9,Int.toNat_natCast,s8,ta7,hT,hfl,hb,hg,hn,b1,b2,b3,Oc3,rr,ap,rr2];rw[btD (B7 hk)];cases h2:T.2 with
  |false=>simp only[Qjj,if_false,hO];rfl
  |true =>
   simp only[if_true,J1];cases h3:Fb9 s T.1 with
   |true =>
    cases h4:Fb9 s (U3 T.1) with
    |true=>simp only[yb0,h3,h4,if_true,hO];rfl
    |false =>
     rw[Wc9 _ _ h4];cases h5:bey l (U3 T.1)<;>(simp only[yb0,h3,h4,h5,if_true,if_false,Qjj,Yb8,hO,dd6,Qjd,List.length_singleton];rfl)
   |false =>
    simp only[Wc9 _ _ h3,Oc3];cases h5:bey l T.1<;>cases h4:Fb9 (s++[T.1]) (U3 T.1)<;>(try simp only[Wc9 _ _ h4])<;>cases h6:bey l (U3 T.1)<;>(simp only[yb0,h3,h4,h5,h6,if_true,if_false,Qjj,Yb8,hO,dd6,Qjd,List.length_singleton];rfl)
theorem ae5 (l : List V3) (hl : l.length ≤ 48) (a c : Nat) (ha : a < l.length) (hc : c < a) (x1 x2 x3 x4 : Int) (s : List Pln) (ho : s.length ≤ 800000) :
  ∃j,lp (L3 ⟨(a:Int),(c:Int),x1,x2,x3,x4,(c:Int),l,l⟩) (mkf l 0 s)=(phP (fil l (G2 l a s c))+1,mkf l j (G2 l a s c)):=by
 have key:=V7 (step:=L3 ⟨(a:Int),(c:Int),x1,x2,x3,x4,(c:Int),l,l⟩) (mk:=mkf l) c (λj o=>j<=c/\o=(List.range j).foldl (tb7 l a c) s) (λt r=>t=phP (fil l (G2 l a s c))+1/\∃j:Nat,r=mkf l j (G2 l a s c)) (by omega)
  (λj o hj hi=>by
   obtain⟨_,hi⟩:=hi;have hlen:o.length<=900000:=by
    rw[hi]
    have:=ic9 (vc4 l a c) s j
    omega
   rw[zd4 l hl a c j ha hc hj x1 x2 x3 x4 o hlen];exact .nx ⟨_,rfl,by omega,by rw[D5,<- hi]⟩)
  (λj o hj hi=>by
   obtain⟨h1,hi⟩:=hi;have e:j=c:=by omega
   subst e;have hF:o=G2 l a s j:=hi;rw[<- hF];refine⟨_,?_,rfl,j,rfl⟩;unfold mkf;cases hO:fil l o with
   |nil =>
    show M5 Stp.next Stp.exit Stp.fail _ _=_;simp only[M5];rw[bfD (G6 (Qjg _))];rfl
   |cons q o =>
    show M6 Stp.next Stp.exit Stp.fail _ _=_;simp only[M6];rw[bfD (G6 (Qjg _))]
    rfl) 0 s ⟨Qjl _,rfl⟩
 obtain⟨t,r,h1,rfl,j,rfl⟩:=key;exact⟨j,h1⟩
@[reducible] noncomputable def jc8(l:List V3)(k:Nat)(s:List Pln):r8:=⟨phP (fil l s),(k:Int),l,l,Qa8 s,(fil l s).length,bL tP (fil l s)⟩
theorem ae6 (l : List V3) (hl : l.length ≤ 48) (a : Nat) (ha : a < l.length) (x1 x2 : Int) (s : List Pln) (ho : s.length ≤ 700000) :
  ∃j,lp (R6 ⟨(a:Int),x1,x2,(a:Int)⟩) (jc8 l 0 s)=(phP (fil l (G1 l s a))+1,jc8 l j (G1 l s a)):=by
 have key:=V7 (step:=R6 ⟨(a:Int),x1,x2,(a:Int)⟩) (mk:=jc8 l) a (λj o=>j<=a/\o=(List.range j).foldl (G2 l a) s) (λt r=>t=phP (fil l (G1 l s a))+1/\∃j:Nat,r=jc8 l j (G1 l s a)) (by omega)
  (λj o hj hi=>by
   obtain⟨hja,hi⟩:=hi;have hlen:o.length<=800000:=by rw[hi];have:=Xc0 l a s j hja (by omega);omega
   have hn:=J0 hj (show a<=4611686018427387904 by omega)
   have bj:inB (j:Int) (l.length+1)=true:=k8 (by omega)
   obtain⟨j',e1⟩:=ae5 l hl a j ha hj x1 x2 (a:Int) (j:Int) o hlen
   have fin : ∀ {r : r8}, r = jc8 l (j + 1) (G2 l a o j) → Nx (.next r) (fun t => t = phP (fil l (G1 l s a)) + 1 ∧ ∃ j' : Nat, jc8 l j o = jc8 l j' (G1 l s a))
     (λr=>∃o',r=jc8 l (j+1) o'/\(j+1<=a/\o'=(List.range (j+1)).foldl (G2 l a) s)):=λ{r} hs =>
    .nx ⟨_,hs,by omega,by rw[D5,<- hi]⟩
   clear hi
   generalize hF:G2 l a o j=R at *
   unfold jc8 at *
   unfold mkf at e1;cases hO:fil l o with
   |nil =>
    rw[hO] at e1 fin;show Nx (M7 Stp.next Stp.exit Stp.fail _ _) _ _;simp only[M7,s8,p8,hn,bj,Int.toNat_natCast,Nat.sub_zero];have e1:lp (L3 ⟨(a:Int),(j:Int),x1,x2,(a:Int),(j:Int),(j:Int),l,l⟩) ⟨0,0,Qa8 o,0,[]⟩=_:=e1;rw[btD (B7 hj),e1];cases hR:fil l R with
    |nil=>exact fin (by rw[hR];rfl)
    |cons q R'=>exact fin (by rw[hR];rfl)
   |cons q o' =>
    rw[hO] at e1 fin;show Nx (M8 Stp.next Stp.exit Stp.fail _ _) _ _;simp only[M8,s8,p8,hn,bj,Int.toNat_natCast,Nat.sub_zero];have e1:lp (L3 ⟨(a:Int),(j:Int),x1,x2,(a:Int),(j:Int),(j:Int),l,l⟩) ⟨1,0,Qa8 o,(q::o').length,bL tP (q::o')⟩=_:=e1;rw[btD (B7 hj),e1];cases hR:fil l R with
    |nil=>exact fin (by rw[hR];rfl)
    |cons q R'=>exact fin (by rw[hR];rfl))
  (λj o hj hi=>by
   obtain⟨h1,hi⟩:=hi;have e:j=a:=by omega
   subst e;have hF:o=G1 l s j:=hi;rw[<- hF];refine⟨_,?_,rfl,j,rfl⟩;unfold jc8;cases hO:fil l o with
   |nil =>
    show M7 Stp.next Stp.exit Stp.fail _ _=_;simp only[M7];rw[bfD (G6 (Qjg _))];rfl
   |cons q o =>
    show M8 Stp.next Stp.exit Stp.fail _ _=_;simp only[M8];rw[bfD (G6 (Qjg _))]
    rfl) 0 s ⟨Qjl _,rfl⟩
 obtain⟨t,r,h1,rfl,j,rfl⟩:=key;exact⟨j,h1⟩
@[reducible] noncomputable def Cc6(l:List V3)(k:Nat)(s:List Pln):v7:=⟨phP (fil l s),(k:Int),l,l,Qa8 s,(fil l s).length,bL tP (fil l s)⟩
theorem ae7 (l : List V3) (hl : l.length ≤ 48) :
  ∃j,lp (qa1 ⟨(l.length:Int)⟩) ⟨0,0,l,l,[],0,[]⟩=(phP (fil l (G0 l))+1,Cc6 l j (G0 l)):=by
 have key:=V7 (step:=qa1 ⟨(l.length:Int)⟩) (mk:=Cc6 l) l.length (λj o=>j<=l.length/\o=(List.range j).foldl (G1 l) []) (λt r=>t=phP (fil l (G0 l))+1/\∃j:Nat,r=Cc6 l j (G0 l)) (by omega)
  (λj o hj hi=>by
   obtain⟨hja,hi⟩:=hi;have hlen:o.length<=700000:=by rw[hi];have:=Cc5 l hl j hja;omega
   have hn:=J0 hj (show l.length<=4611686018427387904 by omega)
   have bj:inB (j:Int) (l.length+1)=true:=k8 (by omega)
   obtain⟨j',e1⟩:=ae6 l hl j hj (l.length:Int) (j:Int) o hlen
   have fin : ∀ {r : v7}, r = Cc6 l (j + 1) (G1 l o j) → Nx (.next r) (fun t => t = phP (fil l (G0 l)) + 1 ∧ ∃ j' : Nat, Cc6 l j o = Cc6 l j' (G0 l))
     (λr=>∃o',r=Cc6 l (j+1) o'/\(j+1<=l.length/\o'=(List.range (j+1)).foldl (G1 l) [])):=λ{r} hs =>
    .nx ⟨_,hs,by omega,by rw[D5,<- hi]⟩
   clear hi
   generalize hF:G1 l o j=R at *
   unfold Cc6 at *
   unfold jc8 at e1;cases hO:fil l o with
   |nil =>
    rw[hO] at e1 fin;show Nx (M9 Stp.next Stp.exit Stp.fail _ _) _ _;simp only[M9,s8,p8,hn,bj,Int.toNat_natCast,Nat.sub_zero];have e1:lp (R6 ⟨(j:Int),(l.length:Int),(j:Int),(j:Int)⟩) ⟨0,0,l,l,Qa8 o,0,[]⟩=_:=e1;rw[btD (B7 hj),e1];cases hR:fil l R with
    |nil=>exact fin (by rw[hR];rfl)
    |cons q R'=>exact fin (by rw[hR];rfl)
   |cons q o' =>
    rw[hO] at e1 fin;show Nx (N0 Stp.next Stp.exit Stp.fail _ _) _ _;simp only[N0,s8,p8,hn,bj,Int.toNat_natCast,Nat.sub_zero];have e1:lp (R6 ⟨(j:Int),(l.length:Int),(j:Int),(j:Int)⟩) ⟨1,0,l,l,Qa8 o,(q::o').length,bL tP (q::o')⟩=_:=e1;rw[btD (B7 hj),e1];cases hR:fil l R with
    |nil=>exact fin (by rw[hR];rfl)
    |cons q R'=>exact fin (by rw[hR];rfl))
  (λj o hj hi=>by
   obtain⟨h1,hi⟩:=hi;have e:j=l.length:=by omega
   subst e;have hF:o=G0 l:=hi;rw[<- hF];refine⟨_,?_,rfl,l.length,rfl⟩;unfold Cc6;cases hO:fil l o with
   |nil =>
    show M9 Stp.next Stp.exit Stp.fail _ _=_;simp only[M9];rw[bfD (G6 (Qjg _))];rfl
   |cons q o =>
    show N0 Stp.next Stp.exit Stp.fail _ _=_;simp only[N0];rw[bfD (G6 (Qjg _))]
    rfl) 0 [] ⟨Qjl _,rfl⟩
 obtain⟨t,r,h1,rfl,j,rfl⟩:=key;exact⟨j,h1⟩
theorem Xc1{F:List Pln}(h:∀p∈F,okp p=true){k:Nat}(hk:k<F.length):Bd (gL tP F k):=Mb9 (h _ (bb2 tP hk))
theorem Nd2{n:V3}{r:Pln}(hn:Sm 42467328 n.x/\Sm 42467328 n.y/\Sm 42467328 n.z)(hr:Bd r):p9 n r.n=dot n r.n:=by
 obtain⟨⟨a1,a2⟩,⟨a3,a4⟩,a5,a6⟩:=hn;have r1:=mb a1 a2 hr.x1 hr.x2;have r2:=mb a3 a4 hr.y1 hr.y2;have r3:=mb a5 a6 hr.z1 hr.z2;unfold p9;simp only[xb5,gc8];rw[na2 (by omega) (by omega)]
 rfl
theorem Nd3 (l : List Pln) (n : V3) (hn : Sm 42467328 n.x ∧ Sm 42467328 n.y ∧ Sm 42467328 n.z) (hF : ∀ p ∈ l, okp p = true) (hl : l.length ≤ 1000000000) :
  L8 ⟨l,n.x,n.y,n.z⟩=⟨1,if l.any (λr=>dot n r.n != 0) then ((l.findIdx (λr=>dot n r.n != 0):Nat):Int) else -1⟩:=by
 have h:=Qa4 (step:=z6 ⟨l,(l.length:Int),n.x,n.y,n.z⟩) (mk:=λj=>(⟨(j:Int)⟩:j8)) (c:=λr=>dot n r.n != 0) (u:=1) (fin:=2) tP l hl
  (λj hj=>by
   have e:=Nd2 hn (Xc1 hF hj);simp only[z6,y6,Int.toNat_natCast,Da8,X6,e,J0 hj (show l.length<=4611686018427387904 by omega)]
   rw[btD (B7 hj),bt (k8 hj)])
  (by simp only[z6,y6];rw[bfD (G6 (Qjg _))]) 0 (Qjl _)
 rw[Qjs] at h;unfold L8 y8;simp only[s8,p8];rw[show (⟨0⟩:j8)=⟨((0:Nat):Int)⟩ from rfl,h]
 split
 ·simp only[Qjh];rfl
 ·rfl
theorem Nd4 (l : List Pln) (n : V3) (hn : Sm 42467328 n.x ∧ Sm 42467328 n.y ∧ Sm 42467328 n.z) (hF : ∀ p ∈ l, okp p = true) (hl : l.length ≤ 1000000000) :
  H6 ⟨l,n.x,n.y,n.z⟩=⟨1,l.any λr=>dot n r.n != 0⟩:=by
 unfold H6 r5;simp only[s8,p8,Nd3 l n hn hF hl];split
 ·rename_i h;rw[h,show decide (((l.findIdx (λr=>dot n r.n != 0):Nat):Int)>=0)=true from decide_eq_true (by omega)];rfl
 ·rename_i h;rw[Qjah] at h;rw[h];rfl
noncomputable def md8(l:List Pln)(a c:Nat):Bool:=l.any λr=>dot (a8 (gL tP l a).n (gL tP l c).n) r.n != 0
noncomputable def vtx(l:List Pln):Bool:=(List.range l.length).any λa=>(List.range a).any (md8 l a)
theorem md9{p q:Pln}(hp:Bd p)(hq:Bd q):q8 p.n q.n=a8 p.n q.n/\Sm 42467328 (a8 p.n q.n).x/\Sm 42467328 (a8 p.n q.n).y/\Sm 42467328 (a8 p.n q.n).z:=by
 obtain⟨k1,k2,k3⟩:=lb2 hp.n hq.n;refine⟨?_,k1,k2,k3⟩;rw[Kd6,lb3 (k1.mono (by omega)),lb3 (k2.mono (by omega)),lb3 (k3.mono (by omega))]
theorem Xc2 (l : List Pln) (hF : ∀ p ∈ l, okp p = true) (hl : l.length ≤ 1000000) (a : Nat) (ha : a < l.length) (x9 x10 : Int) :
  ∃j,lp (T9 ⟨l,l,x9,x10,a,(λk=>(λk=>tP.row (gL tP l k)) (0+k)),(a:Int),(gL tP l a).n.x,(gL tP l a).n.y,(gL tP l a).n.z,(gL tP l a).b⟩) ⟨0⟩=(if (List.range a).any (md8 l a) then 1 else 2,⟨((j:Nat):Int)⟩) :=
 xd8 (step:=T9 ⟨l,l,x9,x10,a,(λk=>(λk=>tP.row (gL tP l k)) (0+k)),(a:Int),(gL tP l a).n.x,(gL tP l a).n.y,(gL tP l a).n.z,(gL tP l a).b⟩) (mk:=λj=>(⟨(j:Int)⟩:L4)) a (md8 l a) 1 2 (by omega)
  (λj hj=>by
   obtain⟨e,k1,k2,k3⟩:=md9 (Xc1 hF ha) (Xc1 hF (show j<l.length by omega))
   have rr:(⟨toI (hdA (tP.row (gL tP l j))),toI (hdA (tlA (tP.row (gL tP l j)))),toI (hdA (tlA (tlA (tP.row (gL tP l j)))))⟩:V3)=(gL tP l j).n:=rfl;have e':q8 ⟨(gL tP l a).n.x,(gL tP l a).n.y,(gL tP l a).n.z⟩ (gL tP l j).n=a8 (gL tP l a).n (gL tP l j).n:=e;simp only[T9,Y4,Int.toNat_natCast,Qjh,rr,e',Yd2,s8,p8,Nd4 l _ ⟨k1,k2,k3⟩ hF (show l.length<=1000000000 by omega),J0 hj (show a<=4611686018427387904 by omega)]
   rw[btD (B7 hj),bt (k8 hj)];unfold md8;cases hz:((a8 (gL tP l a).n (gL tP l j).n).x==0&&((a8 (gL tP l a).n (gL tP l j).n).y==0&&((a8 (gL tP l a).n (gL tP l j).n).z==0&&true))) with
   |false=>rfl
   |true =>
    simp only[Bool.and_true,Qjv,beq_iff_eq] at hz
    have:(l.any λr=>dot (a8 (gL tP l a).n (gL tP l j).n) r.n != 0)=false:=by
     rw[List.any_eq_false];intro r _
     have:dot (a8 (gL tP l a).n (gL tP l j).n) r.n=0:=by unfold dot;rw[hz.1,hz.2.1,hz.2.2];simp only[Qjw,Qjat]
     rw[this]
     decide
    rw[this]
    rfl)
  (by simp only[T9,Y4];rw[bfD (G6 (Qjg _))])
theorem vc5(l:List Pln)(hF:∀p∈l,okp p=true)(hl:l.length<=1000000):oa7 l=some (b (vtx l),[]):=by
 obtain⟨j,h⟩:=xd8 (step:=U0 ⟨(l.length:Int)⟩) (mk:=λj=>(⟨l,l,(j:Int)⟩:L5)) l.length (λa=>(List.range a).any (md8 l a)) 1 2 (by omega)
  (λj hj=>by
   obtain⟨j',h1⟩:=Xc2 l hF hl j hj (l.length:Int) (j:Int);simp only[U0,Y5,s8,p8,Int.toNat_natCast,Nat.sub_zero,J0 hj (show l.length<=4611686018427387904 by omega)]
   rw[btD (B7 hj),bt (k8 hj),bt (k8 (show j<l.length+1 by omega)),h1]
   cases (List.range j).any (md8 l j)<;>rfl)
  (by simp only[U0,Y5];rw[bfD (G6 (Qjg _))])
 have h:lp (U0 ⟨(l.length:Int)⟩) ⟨l,l,0⟩=(if vtx l then 1 else 2,⟨l,l,((j:Nat):Int)⟩):=h
 unfold oa7;simp only[s8,p8];rw[h];cases vtx l<;>rfl
theorem Oc5(l:List Pln)(hF:∀p∈l,okp p=true)(hl:l.length<=1000000):ga2 l=vtx l:=by unfold ga2;rw[vc5 l hF hl];rfl
theorem Oc6(l:List Pln)(hF:∀p∈l,okp p=true)(hl:l.length<=1000000):ga3 l=true:=by unfold ga3;rw[vc5 l hF hl];rfl
theorem Nd5(l:List Pln):vtx l=true↔∃p q s,p∈l/\q∈l/\s∈l/\mw p q s≠0:=by
 unfold vtx;rw[Qjf];constructor
 ·rintro⟨a,ha,h⟩;obtain⟨c,hc,h⟩:=Qjf.1 h;rw[Qjab] at ha hc;obtain⟨r,hr,h⟩:=Qjf.1 h;have h:dot (a8 (gL tP l a).n (gL tP l c).n) r.n≠0:=bne_iff_ne.1 h;exact⟨_,_,r,bb2 tP ha,bb2 tP (show c<l.length by omega),hr,λe=>h (by rw[<- e];simp only[mw,dot,a8];grind)⟩
 ·rintro⟨p,q,s,hp,hq,hs,hw⟩;obtain⟨i',hi,rfl⟩:=List.mem_iff_getElem.1 hp;obtain⟨j',hj,rfl⟩:=List.mem_iff_getElem.1 hq;have hne:i'≠j':=λe=>hw (by subst e;simp only[mw,dot,a8];grind)
  rw[<- eb1 tP hi,<- eb1 tP hj] at hw
  rcases Nat.lt_or_gt_of_ne hne with h|h
  ·refine⟨j',Qjab.2 hj,Qjf.2 ⟨i',Qjab.2 h,Qjf.2 ⟨s,hs,?_⟩⟩⟩
   have:dot (a8 (gL tP l j').n (gL tP l i').n) s.n≠0:=λe=>hw (by
    rw[show mw (gL tP l i') (gL tP l j') s=-dot (a8 (gL tP l j').n (gL tP l i').n) s.n from by simp only[mw,dot,a8];grind,e]
    rfl)
   exact bne_iff_ne.2 this
  ·refine⟨i',Qjab.2 hi,Qjf.2 ⟨j',Qjab.2 h,Qjf.2 ⟨s,hs,?_⟩⟩⟩
   have:dot (a8 (gL tP l i').n (gL tP l j').n) s.n≠0:=λe=>hw (by rw[<- e];simp only[mw,dot,a8];grind)
   exact bne_iff_ne.2 this
structure OkF(F:List Pln):Prop where
 l:F.length<=1000000
 v:∀p∈F,okp p=true
noncomputable def own(F:List Pln)(v:V3):List Pln:=F.filter λp=>da6 p v==0
noncomputable def kv(F:List Pln)(v:V3):Bool:=vtx (own F v)
theorem nd0(F:List Pln)(v:V3)(hF:F.length<=1000000):∃j,lp (aa3 ⟨F,(F.length:Int),F,v.x,v.y,v.z⟩) ⟨0,0,0,[]⟩=(phP (own F v)+1,⟨phP (own F v),((j:Nat):Int),(own F v).length,bL tP (own F v)⟩):=by
 have key:=V7 (step:=aa3 ⟨F,(F.length:Int),F,v.x,v.y,v.z⟩) (mk:=λj (o:List Pln)=>(⟨phP o,(j:Int),o.length,bL tP o⟩:j5)) F.length (λj o=>j<=F.length/\o=(F.take j).filter λp=>da6 p v==0) (λt s=>t=phP (own F v)+1/\∃j:Nat,s=⟨phP (own F v),(j:Int),(own F v).length,bL tP (own F v)⟩) (by omega)
  (λj o hj hi=>by
   obtain⟨_,hi⟩:=hi;have hlen:o.length<=1000000:=by
    rw[hi];have h1:=Qjaj (λp=>da6 p v==0) (F.take j)
    have h2:=List.length_take_le j F;omega
   have hn:=J0 hj (show F.length<=4611686018427387904 by omega)
   have hb:=k8 hj;have hT:(F.take (j+1)).filter (λp=>da6 p v==0)=o++(if (da6 (gL tP F j) v==0)=true then [gL tP F j] else []):=by
    rw[bb5 tP hj,Qjz,<- hi,Qjx,List.filter_nil]
   have hnext : ∀ {s : j5} {o' : List Pln}, o' = (F.take (j + 1)).filter (fun p => da6 p v == 0) → s = ⟨phP o', ((j + 1 : Nat) : Int), o'.length, bL tP o'⟩ → Nx (.next s) (fun t => t = phP (own F v) + 1 ∧ ∃ j' : Nat, (⟨phP o, (j : Int), o.length, bL tP o⟩ : j5) = ⟨phP (own F v), (j' : Int), (own F v).length, bL tP (own F v)⟩)
     (λs=>∃o',s=(⟨phP o',((j+1:Nat):Int),o'.length,bL tP o'⟩:j5)/\(j+1<=F.length/\o'=(F.take (j+1)).filter λp=>da6 p v==0)):=λ{s o'} ho' hs=>.nx ⟨o',hs,by omega,ho'⟩
   clear hi
   cases o with
   |nil =>
    show Nx (C6 Stp.next Stp.exit Stp.fail _ _) _ _;simp only[C6,Int.toNat_natCast,Gb5,pb5,hn,hb];rw[btD (B7 hj)];cases hs:da6 (gL tP F j) v==0 with
    |true=>exact hnext (o':=[gL tP F j]) (by rw[hT,hs];rfl) rfl
    |false=>exact hnext (o':=[]) (by rw[hT,hs];rfl) rfl
   |cons q o =>
    have rr:(Nat.beq (q::o).length (len (bL tP (q::o)))&&Nat.ble (((q::o).length+1)*32) room)=true:=Ob3 rfl (by omega)
    have ap:∀(O:List Pln) (p:Pln),app (bL tP O) [[i p.n.x,i p.n.y,i p.n.z,i p.b]]=bL tP (O++[p]):=λO p=>Ra9 tP O [p]
    show Nx (C7 Stp.next Stp.exit Stp.fail _ _) _ _;simp only[C7,Int.toNat_natCast,Gb5,pb5,hn,hb,rr,ap];rw[btD (B7 hj)];cases hs:da6 (gL tP F j) v==0 with
    |true=>exact hnext (o':=q::o++[gL tP F j]) (by rw[hT,hs];rfl) (by rw[Qjd];rfl)
    |false=>exact hnext (o':=q::o) (by rw[hT,hs,if_neg (by simp),Qjt]) rfl)
  (λj o hj hi=>by
   obtain⟨h1,hi⟩:=hi;have e:j=F.length:=by omega
   subst e;have hO:o=own F v:=by rw[hi,List.take_length];rfl
   rw[<- hO];cases o with
   |nil =>
    refine⟨1,?_,rfl,F.length,rfl⟩;show C6 Stp.next Stp.exit Stp.fail _ _=_;simp only[C6];rw[bfD (G6 (Qjg _))]
   |cons q o =>
    refine⟨2,?_,rfl,F.length,rfl⟩;show C7 Stp.next Stp.exit Stp.fail _ _=_;simp only[C7];rw[bfD (G6 (Qjg _))]) 0 [] ⟨Qjl _,by simp⟩
 obtain⟨t,s,h1,rfl,j,rfl⟩:=key;exact⟨j,h1⟩
theorem Cc7(v:V3)(F:List Pln)(hF:OkF F):N1 ⟨v.x,v.y,v.z,F⟩=⟨1,!kv F v,F⟩:=by
 obtain⟨j,h⟩:=nd0 F v hF.l;have hv:∀p∈own F v,okp p=true:=λp hp=>hF.v p (Qjk.1 hp).1
 have hl:(own F v).length<=1000000:=Nat.le_trans (Qjaj _ _) hF.l;unfold N1 U1 kv;simp only[s8,p8];rw[h];cases ho:own F v with
 |nil =>
  have e:ga2 []=vtx []:=Oc5 [] (λp hp=>by cases hp) (by simp)
  have e':ga3 []=true:=Oc6 [] (λp hp=>by cases hp) (by simp)
  rw[e,e'];rfl
 |cons q o =>
  rw[ho] at hv hl;simp only[zc4,Tc2,Oc5 _ hv hl,Oc6 _ hv hl];rfl
theorem Sd0{α:Type}{l:List α}{n:Nat}{c:α->Bool}(h:(l.take n).any c=true):(l.take n).findIdx c<(l.take n).length:=by
 rw[Qjf] at h;obtain⟨p,hp,hc⟩:=h;exact Qjai ⟨p,hp,hc⟩
theorem Nd6(l:List V3)(n:Nat)(X:List Pln)(hn:n<=l.length)(hl:l.length<=1000000000)(hX:OkF X):Q5 ⟨n,bL tV l,X⟩=⟨1,if (l.take n).any (λp=>!kv X p) then (((l.take n).findIdx (λp=>!kv X p):Nat):Int) else -1,X⟩:=by
 have hlen:(l.take n).length=n:=by rw[Qje];omega
 have h:=Qa4 (step:=C8 ⟨n,(n:Int),bL tV l⟩) (mk:=λj=>(⟨(j:Int),X⟩:l7)) (c:=λp=>!kv X p) (u:=1) (fin:=2) tV (l.take n) (by omega)
  (λj hj=>by
   rw[hlen] at hj;have hj':j<l.length:=by omega
   simp only[C8,A6,Int.toNat_natCast,s8,p8,jc2 hj',Ob0 hj',Cc7 _ _ hX,jc4 tV l hj,J0 hj (show n<=4611686018427387904 by omega)]
   rw[btD (B7 hj),bt (k8 hj)]
   rfl)
  (by rw[hlen];simp only[C8,A6];rw[bfD (G6 (Qjg _))]) 0 (Qjl _)
 rw[Qjs,hlen] at h;unfold Q5 B5;simp only[s8,p8];rw[show (⟨0,X⟩:l7)=⟨((0:Nat):Int),X⟩ from rfl,h]
 cases ha:(l.take n).any λp=>!kv X p with
 |false=>rfl
 |true =>
  have hf:=Sd0 ha;rw[hlen] at hf;simp only[if_true,Qjh,Int.toNat_natCast,Ob0 (show (l.take n).findIdx (λp=>!kv X p)<l.length by omega),Cc7 _ _ hX,s8]
  rfl
structure Nd7(l:List V3)(n:Nat)(f:V3->Bool)(cur:List V3)(m j:Nat):Prop where
 len:cur.length=l.length
 t:cur.take m=(l.take j).filter f
 d:cur.drop j=l.drop j
 le:m<=j
 lm:m<=n
theorem Cc8 (l : List V3) (n : Nat) (hnl : n ≤ l.length) (X : List Pln) (hl : l.length ≤ 1000000000) (hX : OkF X) (m j : Nat) (cur : List V3) (hd : Nd7 l n (kv X) cur m j) (hjn : j ≤ n) :
  ∃t s,lp (v8 ⟨n⟩) ⟨(m:Int),(j:Int),bL tV cur,X⟩=(t,s)/\(t=1/\∃m' cur',s=⟨((m':Nat):Int),((n:Nat):Int),bL tV cur',X⟩/\Nd7 l n (kv X) cur' m' n):=by
 refine V7 (step:=v8 ⟨n⟩) (mk:=λj (x:Nat×List V3)=>(⟨(x.1:Int),(j:Int),bL tV x.2,X⟩:o4)) n (λj x=>Nd7 l n (kv X) x.2 x.1 j/\j<=n) (λt s=>t=1/\∃m' cur',s=⟨((m':Nat):Int),((n:Nat):Int),bL tV cur',X⟩/\Nd7 l n (kv X) cur' m' n) (by omega) (λj x hj hx=>?_) (λj x hj hx=>?_) j (m,cur) ⟨hd,hjn⟩
 ·obtain⟨m,cur⟩:=x;obtain⟨⟨h1,h2,h3,h4,h5⟩,_⟩:=hx
  simp only at h1 h2 h3 h4 h5
  have hjc:j<cur.length:=by omega
  have hmc:m<cur.length:=by omega
  have hg:gL tV cur j=gL tV l j:=Nb2 tV h3;have hWm:W ((m:Int)+1)=((m+1:Nat):Int):=by rw[na2 (by omega) (by omega)];omega
  have hb:Nat.blt m cur.length=true:=by rw[Nat.blt_eq];exact hmc
  have hrow:l9 (bL tV cur) m=tV.row (gL tV cur m):=ba0 tV hmc;have sp:∀(v:V3) (x1 x2 x3:Int),aa6 (tV.row v) 0 [i x1,i x2,i x3]=tV.row ⟨x1,x2,x3⟩:=λ_ _ _ _=>rfl
  have rl:∀v:V3,Nat.ble (0+3) (len (tV.row v))=true:=λ_=>rfl
  simp only[v8,A7,Int.toNat_natCast,s8,p8,jc2 hjc,Ob0 hjc,Cc7 _ _ hX,J0 hj (show n<=4611686018427387904 by omega),hWm]
  rw[btD (B7 hj),bt (k8 hj)];simp only[Qjh,hrow,Ra8,hb,sp,Ic3,k8 (show m<n by omega),hg]
  have ht:=bb5 tV (show j<l.length by omega)
  have hd1:cur.drop (j+1)=l.drop (j+1):=Fb1 h3 1;cases hk:kv X (gL tV l j) with
  |true =>
   refine .nx ⟨(m+1,cur.set m (gL tV l j)),rfl,⟨by rw[Qjak];exact h1,?_,?_,by omega,by show m+1<=n;omega⟩,by omega⟩
   ·show (cur.set m (gL tV l j)).take (m+1)=_;rw[ht,Qjz,Qjag (by rw[Qjak];exact hmc),Qjaz,List.take_set_of_le (Qjp _),h2,Qjx,hk,if_pos rfl,List.filter_nil]
   ·show (cur.set m (gL tV l j)).drop (j+1)=_;rw[List.drop_set_of_lt (by omega),hd1]
  |false =>
   refine .nx ⟨(m,cur),rfl,⟨h1,?_,hd1,by omega,h5⟩,by omega⟩
   show cur.take m=_;rw[ht,Qjz,h2,Qjx,hk,if_neg (by simp),List.filter_nil,Qjt]
 ·obtain⟨m,cur⟩:=x;obtain⟨hx,hjn⟩:=hx;have e:j=n:=by omega
  subst e;refine⟨1,?_,rfl,m,cur,rfl,hx⟩;simp only[v8,A7];rw[bfD (by omega)]
theorem Xc3 (l : List V3) (n : Nat) (hnl : n ≤ l.length) (X : List Pln) (hl : l.length ≤ 1000000000) (hX : OkF X) :
  ∃m r,Q8 ⟨n,bL tV l,X⟩=⟨1,m,bL tV r,X⟩/\m<=r.length/\r.take m=(l.take n).filter (kv X):=by
 have hlen:(l.take n).length=n:=by rw[Qje];omega
 unfold Q8 B6;simp only[s8,p8,Nd6 l n X hnl hl hX];cases ha:(l.take n).any λp=>!kv X p with
 |false =>
  refine⟨n,l,rfl,hnl,?_⟩
  symm
  rw[List.filter_eq_self];intro p hp
  have:=List.any_eq_false.1 ha p hp
  simpa using this
 |true =>
  have hf:=Sd0 ha;have hk:kv X (gL tV (l.take n) ((l.take n).findIdx λp=>!kv X p))=false:=by
   have:=Qjac (xs:=l.take n) (p:=λp=>!kv X p) (w:=hf)
   rw[eb1 tV hf];simpa using this
  have ht:=Fb0 (λp=>!kv X p) (l.take n)
  simp only[Bool.not_not] at ht;generalize hF:(l.take n).findIdx (λp=>!kv X p)=F at *
  rw[hlen] at hf;rw[jc4 tV l hf] at hk;rw[Qjba,Nat.min_eq_left (by omega)] at ht
  have hW:W ((F:Int)+1)=((F+1:Nat):Int):=J0 hf (by omega)
  have hne:((F:Int)==-1)=false:=by rw[beq_eq_false_iff_ne];omega
  obtain⟨t,s,e1,rfl,m,cur,e2,e3⟩:=Cc8 l n hnl X hl hX F (F+1) l ⟨rfl,by rw[bb5 tV (show F<l.length by omega),Qjz,ht,Qjx,hk,if_neg (by simp),List.filter_nil,Qjt],rfl,by omega,by omega⟩ (by omega)
  have hm:m<=n:=e3.lm;have hin:inB (m:Int) (n+1)=true:=k8 (by omega)
  simp only[if_true,hW,hne,e1,e2,Int.toNat_natCast,hin,Qjh,Nat.sub_zero];refine⟨m,cur.take m++(List.replicate (n-m) ⟨0,0,0⟩++cur.drop (m+(n-m))),?_,?_,?_⟩
  ·rw[Nc7,Nc8,jc3,Ra9,Ra9];rfl
  ·rw[Qjd,Qjd,Qje,Qjbb,e3.len];omega
  ·rw[Qjaa (by rw[Qje,e3.len];omega),Qjba,Nat.min_self,e3.t]
noncomputable def ha1(F:List Pln)(l:List V3):List V3:=(dis l).filter (kv F)
theorem Cc9(a:V3)(l:List V3)(hl:l.length<=1000000):∃m r,ma2 (a,l)=⟨1,m,bL tV r⟩/\m<=r.length/\r.take m=dis (a::l)/\r.length<=1000000000:=by
 obtain⟨m,r,k1,k2,k3,k4⟩:=Gb4 a l hl;have hok:okL tV (l.length+1) (λk=>tV.row (gL tV (a::l) k))=true:=Ra7 tV (f:=λk=>gL tV (a::l) k) λ_ _=>rfl
 have hr:=Oc0 (a::l) (by simp only[List.length_cons];omega) []
 rw[Qjt] at hr;unfold ma2 U2;simp only[ad1,ad2,uc9 a l hl,hok,k1,J1,Nat.beq_refl,hr];exact⟨m,r,rfl,k2,k3,by omega⟩
end Go.Ev.Ce
namespace Go.Ev.Ce
open Go Go.Ev Go.Ev.L Go.Proofs Go.Sort
theorem nd1(l:List V3)(a c k:Nat)(s:List Pln)(p:Pln):p∈tb7 l a c s k↔p∈s\/((A8 (gL tV l k) (gL tV l c) (gL tV l a)).2=true/\(p=(A8 (gL tV l k) (gL tV l c) (gL tV l a)).1\/p=U3 (A8 (gL tV l k) (gL tV l c) (gL tV l a)).1)):=by
 unfold tb7;generalize A8 (gL tV l k) (gL tV l c) (gL tV l a)=T;cases h2:T.2 with
 |false=>simp
 |true=>simp only[if_true,zd3,true_and,or_assoc]
theorem ae8(l:List V3)(p:Pln):p∈G0 l↔∃a,a<l.length/\∃c,c<a/\∃k,k<c/\((A8 (gL tV l k) (gL tV l c) (gL tV l a)).2=true/\(p=(A8 (gL tV l k) (gL tV l c) (gL tV l a)).1\/p=U3 (A8 (gL tV l k) (gL tV l c) (gL tV l a)).1)):=by
 have h:p∈G0 l↔p∈[]\/_:=Na4 (λo a p=>Na4 (λo c p=>Na4 (λo k p=>nd1 l a c k o p) o p c) o p a) [] p l.length
 rw[h];simp only[List.not_mem_nil,false_or]
theorem Dc0{f:List Pln->Nat->List Pln}(h:∀o k,o.Nodup->(f o k).Nodup){o:List Pln}(ho:o.Nodup):∀n,((List.range n).foldl f o).Nodup
 |0=>ho
 |n+1=>by rw[D5];exact h _ _ (Dc0 h ho n)
theorem zd5(l:List V3):(G0 l).Nodup:=Dc0 (λo a ho=>Dc0 (λo c ho=>Dc0 (λo k ho=>by
 show (tb7 l a c o k).Nodup;unfold tb7;split
 ·exact jc7 (jc7 ho)
 ·exact ho) ho c) ho a) List.nodup_nil l.length
theorem Nd8{l:List V3}(hl:l.all inV=true)(p:Pln):p∈fil l (G0 l)↔wa9 l p:=by
 have hin:=Qja.1 hl;have hb:(!bey l p)=hold p l:=rfl;unfold fil;rw[Qjk,ae8,hb];constructor
 ·rintro⟨⟨a,ha,c,hc,k,hk,h1,h2⟩,h3⟩;have ma:=gLm ha;have mc:=gLm (show c<l.length by omega)
  have mk:=gLm (show k<l.length by omega)
  have ht:=(da7 h1).2
  rcases h2 with rfl|rfl
  ·exact Yb7 mk mc ma ht ((Ya1 ht.ok hl).1 h3)
  ·exact Gb2 mk mc ma ht ((Ya1 (Fb8 ht.ok) hl).1 h3)
 ·intro h;obtain⟨u,w,x,hu,hw,hx,h3,t1,t2,t3⟩:=h.on;obtain⟨a,ha,c,hc,k,hk,hn,hall⟩:=ae1 hu hw hx h3;obtain⟨i1,i2,i3⟩:=hall (λv=>inV v=true) (hin u hu) (hin w hw) (hin x hx)
  obtain⟨e1,e2,e3⟩:=hall (λv=>dot p.n v=p.b) t1 t2 t3
  have h2:=va8 i3 i2 i1 (yd1 hn).2.2.1;exact⟨⟨a,ha,c,hc,k,hk,h2,mb0 (da7 h2).2 h.ok e3 e2 e1⟩,(Ya1 h.ok hl).2 h.hd⟩
theorem vc6{l r:List V3}(h:∀v,v∈r↔v∈l){p:Pln}(hp:wa9 l p):wa9 r p:=by
 obtain⟨⟨hd,u,w,x,hu,hw,hx,e⟩,ok⟩:=hp;exact⟨⟨λv hv=>hd v ((h v).1 hv),u,w,x,(h u).2 hu,(h w).2 hw,(h x).2 hx,e⟩,ok⟩
theorem Xc4{l:List Pln}(h:l.Nodup):Ca1 (sb2 l):=by
 have h1:=Bc6 l;have h2:(sb2 l).Nodup:=(ic5 l).nodup_iff.2 h;have h3:=h1.and h2;refine h3.imp λ{x y} ⟨k1,k2⟩=>?_
 rw[ya1] at k1;have k1:¬ LtP y x:=by simpa using k1
 rcases cd5 x y with h|h|h
 ·exact h
 ·exact absurd h k2
 ·exact absurd h k1
theorem Nd9{l:List V3}(hl:l.all inV=true):(dis l).all inV=true:=Qja.2 λv hv=>Qja.1 hl v ((pb4 l v).1 hv)
theorem Oc7{l:List V3}(hl:l.all inV=true):sb2 (fil (dis l) (G0 (dis l)))=F0 l:=by
 refine Nb5 (Xc4 ((zd5 (dis l)).filter _)) (Nb7 l) λp=>?_
 rw[(ic5 _).mem_iff,Nd8 (Nd9 hl),z7 hl];exact⟨vc6 λv=>(pb4 l v).symm,vc6 (pb4 l)⟩
theorem Sd1{l:List V3}(hl:l.all inV=true)(h4:Sol l):F0 l≠[]:=λe=>by
 have h:=pb3 h4 (dd1 hl (c:=[]) λp hp=>by rw[<- z7 hl,e] at hp;exact hp) (x:=⟨100,0,0,1⟩) ⟨by show (0:Int)<1;omega,λp hp=>by cases hp⟩ (h:=⟨⟨1,0,0⟩,24⟩) λv hv=>by
  obtain⟨⟨a1,a2⟩,_,_⟩:=(qa4 v).1 (Qja.1 hl v hv);simp only[dot];omega
 simp only[rmZ] at h;omega
theorem Ya2{l:List V3}(h48:l.length<=48)(hl:l.all inV=true)(h4:Sol l):ca5 l=0:=by
 have hin:=Qja.1 hl;unfold ca5;rw[if_neg (by omega),if_neg (by rw[<- Qjav,hl];simp)]
 have h1:(ixs l.length).any (sp1 l)=true:=by
  obtain⟨a,c,k,v,ha,hc,hk,hv,hd⟩:=h4;obtain⟨i',hi,j',hj,k',hk',hn,hall⟩:=ae1 ha hc hk (Wc4 hd);obtain⟨i1,i2,i3⟩:=hall (λv=>inV v=true) (hin _ ha) (hin _ hc) (hin _ hk)
  have ht:=va8 i3 i2 i1 (yd1 hn).2.2.1;have mem:∀{n m:Nat},m<n->((m:Nat):Int)∈ixs n:=λ{n m} h=>Qjb.2 ⟨m,Qjab.2 h,rfl⟩
  refine Qjf.2 ⟨_,mem hi,?_⟩;unfold sp1;rw[Int.toNat_natCast];refine Qjf.2 ⟨_,mem hj,?_⟩;unfold sp2;rw[Int.toNat_natCast];refine Qjf.2 ⟨gL tV l k',?_,ht⟩;rw[<- jc4 tV l hk'];exact bb2 tV (by rw[Qje];omega)
 have h2:tb6 l=false:=by
  unfold tb6;rw[if_pos h1];obtain⟨hi,k1⟩:=pb6 h1;have k1:(ixs (iF l)).any (sp2 l (iF l))=true:=k1;obtain⟨hj,k2⟩:=pb6 k1;have k2:(l.take (jF l)).any (λv=>(A8 v (gL tV l (jF l)) (gL tV l (iF l))).2)=true:=k2
  have hj:jF l<iF l:=hj;have hi:iF l<l.length:=hi;have hk:=Cc2 k2;have hk2:=Qjac (xs:=l.take (jF l)) (p:=λv=>(A8 v (gL tV l (jF l)) (gL tV l (iF l))).2) (w:=hk)
  rw[<- eb1 tV hk,jc4 tV l (by rw[Qje] at hk;omega)] at hk2
  have hok:okp (plF l)=true:=(da7 hk2).2.ok;obtain⟨v,hv,hne⟩:=h4.off (Qa7 hok) (plF l).b;rw[Bool.not_eq_false',Qjf];refine⟨v,hv,?_⟩
  have:da6 (plF l) v≠0:=λe=>hne ((Nb6 hok (hin v hv)).1 e)
  simpa using this
 rw[h2];rfl
theorem Od0(l r:List Pln)(n:Nat)(hn:n=l.length):(two (r1L tP) r1I).rd (.tup [.sl 0 0 n 0,i 0],[⟨50,4,bL tP (l++r),true,false,0⟩])=some (l,0):=by
 subst hn;have h:(r1L tP).rd [⟨50,4,bL tP (l++r),true,false,0⟩] (.sl 0 0 l.length 0)=some l:=by
  show Bool.rec (motive:=λ_=>Option (List Pln)) none (some (slR tP (bL tP (l++r)) 0 l.length)) (Bool.and true (okS tP (bL tP (l++r)) 0 l.length))=_
  rw[wd4 _ _ (by rw[Qjd];omega),wd5 _ _ (by rw[Qjd];omega),List.take_left']
  ·rfl
  ·rfl
 simp only[two,h];rfl
theorem nd2(a:V3)(l:List V3)(h48:(a::l).length<=48)(hl:(a::l).all inV=true)(h4:Sol (a::l)):Rd (two (r1L tP) r1I) (da5 (a,l)) (λr=>r=(F0 (a::l),0)):=by
 have hc:=Ya2 h48 hl h4;have hdl:=Cc1 (a::l);have hll:l.length<=1000000:=by simp only[List.length_cons] at h48;omega
 obtain⟨j,e⟩:=ae7 (dis (a::l)) (by omega)
 have hf:=Oc7 hl;have hne:fil (dis (a::l)) (G0 (dis (a::l)))≠[]:=λe=>by
  rw[e] at hf;have h0:sb2 []=[]:=md0;rw[h0] at hf;exact Sd1 hl h4 hf.symm
 have hok:okL tV (l.length+1) (λk=>tV.row (gL tV (a::l) k))=true:=Ra7 tV (f:=λk=>gL tV (a::l) k) λ_ _=>rfl
 have hlen:(fil (dis (a::l)) (G0 (dis (a::l)))).length<=1000000:=by
  have h1:=Cc4 (dis (a::l)) (G0 (dis (a::l)));have h2:(G0 (dis (a::l))).length<=_:=Cc5 (dis (a::l)) (by omega) _ (Qjp _)
  omega
 unfold da5;simp only[s8,ta7,p8,ad1,ad2,hok,jc6 (a::l) (by omega),jc5 (a::l) (by omega),hc,Wc7 a l hll,Wc8 a l hll,e]
 generalize fil (dis (a::l)) (G0 (dis (a::l)))=O at *
 cases O with
 |nil=>exact absurd rfl hne
 |cons q o =>
  have hr:(Bool.and (Nat.ble (q::o).length room) (Bool.and (Nat.ble (q::o).length (len (bL tP (q::o)))) (okS tP (bL tP (q::o)) 0 (q::o).length)))=true:=by
   rw[Tc2,Ra8,Qjv,Qjv,Qjaq,Qjaq];refine⟨by unfold room;omega,Qjp _,rfl⟩
  simp only[phP,hr,zc4,Ld4,Ra9,hf];exact⟨_,(F0 (a::l),0),rfl,Od0 _ _ _ (by rw[<- hf,ob8]),rfl⟩
theorem zd6{l:List V3}(hl:l.all inV=true){v:V3}(hv:v∈l):kv (F0 l) v=true↔Spn (F0 l) v:=by
 have hin:=Qja.1 hl;have hs:∀p∈F0 l,(da6 p v==0)=true↔dot p.n v=p.b:=λp hp=>by rw[beq_iff_eq];exact Nb6 (yd0 hp).ok (hin v hv)
 unfold kv own;rw[Nd5];constructor
 ·rintro⟨p,q,s,hp,hq,hs',hw⟩;rw[Qjk] at hp hq hs';exact⟨p,q,s,hp.1,hq.1,hs'.1,hw,(hs p hp.1).1 hp.2,(hs q hq.1).1 hq.2,(hs s hs'.1).1 hs'.2⟩
 ·rintro⟨p,q,s,hp,hq,hs',hw,e1,e2,e3⟩;exact⟨p,q,s,Qjk.2 ⟨hp,(hs p hp).2 e1⟩,Qjk.2 ⟨hq,(hs q hq).2 e2⟩,Qjk.2 ⟨hs',(hs s hs').2 e3⟩,hw⟩
end Go.Ev.Ce
namespace Go.Ev.Ce
open Go Go.Ev Go.Ev.L Go.Proofs
structure B8(v:V3):Prop where
 x:Sm 8 v.x
 y:Sm 8 v.y
 z:Sm 8 v.z
structure Mp(l:List V3):Prop where
 l4:4<=l.length
 l8:l.length<=8
 bd:∀v∈l,Sm 11 v.x/\Sm 11 v.y/\Sm 11 v.z
 nf:nf0 l=true
theorem Mp.inV{l:List V3}(h:Mp l):l.all inV=true:=Qja.2 λv hv=>by
 obtain⟨h1,h2,h3⟩:=h.bd v hv;exact (qa4 v).2 ⟨h1.mono (by omega),h2.mono (by omega),h3.mono (by omega)⟩
theorem ma3{l:List V3}(h:ca5 l=0):l.length<=48/\l.all inV=true/\Sol l:=by
 unfold ca5 at h
 split at h
 ·cases h
 rename_i h48
 split at h
 ·cases h
 rename_i hin
 split at h
 ·cases h
 rename_i hf;have hl:l.all inV=true:=by
  rw[Qja];intro v hv;cases hi:inV v with
  |true=>rfl
  |false=>exact absurd (Qjf.2 ⟨v,hv,by rw[hi];rfl⟩) hin
 have hin2:=Qja.1 hl;refine⟨by omega,hl,?_⟩
 have hf:tb6 l=false:=Bool.eq_false_iff.2 hf;unfold tb6 at hf
 split at hf
 ·rename_i h1;obtain⟨hi,k1⟩:=pb6 h1;have k1:(ixs (iF l)).any (sp2 l (iF l))=true:=k1;obtain⟨hj,k2⟩:=pb6 k1;have k2:(l.take (jF l)).any (λv=>(A8 v (gL tV l (jF l)) (gL tV l (iF l))).2)=true:=k2
  have hj:jF l<iF l:=hj;have hi:iF l<l.length:=hi;have hk:=Cc2 k2;have hk2:=Qjac (xs:=l.take (jF l)) (p:=λv=>(A8 v (gL tV l (jF l)) (gL tV l (iF l))).2) (w:=hk)
  rw[Qje] at hk;rw[<- eb1 tV (by rw[Qje];exact hk),jc4 tV l (by omega)] at hk2
  have ht:=(da7 hk2).2;rw[Bool.not_eq_false',Qjf] at hf;obtain⟨v,hv,hne⟩:=hf;have hne:da6 (plF l) v≠0:=bne_iff_ne.1 hne;have ht:Thr (gL tV l (kF l)) (gL tV l (jF l)) (gL tV l (iF l)) (plF l):=ht;have hkl:kF l<l.length:=by
   have:kF l<min (jF l) l.length:=hk
   omega
  have hoff:dot (plF l).n v≠(plF l).b:=λe=>hne ((Nb6 ht.ok (hin2 v hv)).2 e)
  refine⟨_,_,_,v,gLm hkl,gLm (show jF l<l.length by omega),gLm hi,hv,λh0=>hoff ?_⟩
  obtain⟨ok,⟨g,hg,e1,e2,e3⟩,o⟩:=ht;have e:g*(dot (plF l).n v-(plF l).b)=dot (N3 (gL tV l (kF l)) (gL tV l (jF l)) (gL tV l (iF l))) (d7 v (gL tV l (kF l))):=by
   have e1:g*(plF l).n.x=(N3 (gL tV l (kF l)) (gL tV l (jF l)) (gL tV l (iF l))).x:=e1;have e2:g*(plF l).n.y=(N3 (gL tV l (kF l)) (gL tV l (jF l)) (gL tV l (iF l))).y:=e2;have e3:g*(plF l).n.z=(N3 (gL tV l (kF l)) (gL tV l (jF l)) (gL tV l (iF l))).z:=e3;rw[o];simp only[dot];rw[<- e1,<- e2,<- e3];simp only[d7]
   grind
  rw[h0] at e
  have:=(Qjq.1 e).resolve_left (by omega)
  omega
 ·cases hf
noncomputable def ca2(l:List V3):List Pln×Int:=if ca5 l=0 then (F0 l,0) else ([],ca5 l)
noncomputable def Vb5(l:List V3):List V3×Int:=if ca5 l=0 then (ha1 (F0 l) l,0) else ([],ca5 l)
theorem Oc8{l:List V3}(h48:l.length<=48)(hl:l.all inV=true):(F0 l).length<=1000000:=by
 have h1:=Cc4 (dis l) (G0 (dis l));have hd:=Cc1 l;have h2:(G0 (dis l)).length<=_:=Cc5 (dis l) (by omega) _ (Qjp _)
 rw[<- Oc7 hl,ob8];omega
theorem bb9(a:V3)(l:List V3)(hl:l.length<=900000):Rd (two (r1L tP) r1I) (da5 (a,l)) (λr=>r=ca2 (a::l)):=by
 by_cases h:ca5 (a::l)=0
 ·obtain⟨h1,h2,h3⟩:=ma3 h;unfold ca2;rw[if_pos h];exact nd2 a l h1 h2 h3
 ·have hll:(a::l).length<=1000000:=by simp only[List.length_cons];omega
  have hne:(ca5 (a::l) != 0)=true:=bne_iff_ne.2 h;unfold ca2 da5;rw[if_neg h];simp only[s8,ta7,p8,jc6 (a::l) hll,jc5 (a::l) hll,hne,J1];exact⟨_,([],ca5 (a::l)),rfl,rfl,rfl⟩
theorem Gb6:ca5 []=11:=by
 unfold ca5 tb6;rfl
noncomputable def pc3(l:List V3):List Pln×Int:=ca2 l
noncomputable def tb8(l:List V3):Bool:=decide (1<=l.length/\l.length<=900000)
noncomputable def pc4:Sum:=O8 (Ba4 tV) λl=>.guard (tb8 l) (.ret ((two (r1L tP) r1I).enc (pc3 l),[]))
theorem jc9:g9 prog G 18 pc4:=by
 refine vd4 (pb1 sb6 λa r hr=>?_) (pb1 kb9 λa r hr=>?_) (pb1 lb0 λa r hr=>?_)
 ·obtain⟨p,c⟩:=a;obtain⟨hg,hr⟩:=DT.run_guard_some hr;have hl:c.length<=900000:=by
   have:=(of_decide_eq_true hg).2
   simp only[List.length_cons] at this;omega
  have hp:Ga9 (p,c)=ca2 (p::c):=(bb9 p c hl).p;have hq:Ha0 (p,c)=true:=(bb9 p c hl).g;rw[hp,hq];exact hr
 ·obtain⟨hg,hr⟩:=DT.run_guard_some hr;exact absurd (of_decide_eq_true hg).1 (by simp)
 ·obtain⟨hg,hr⟩:=DT.run_guard_some hr;exact absurd (of_decide_eq_true hg).1 (by simp)
theorem Gb7(a:V3)(l:List V3)(hl:l.length<=900000):Rd (two (r1L tV) r1I) (ja6 (a,l)) (λr=>r=Vb5 (a::l)):=by
 have hok:okL tV (l.length+1) (λk=>tV.row (gL tV (a::l) k))=true:=Ra7 tV (f:=λk=>gL tV (a::l) k) λ_ _=>rfl
 have hp:Ga9 (a,l)=ca2 (a::l):=(bb9 a l hl).p;have hq:Ha0 (a,l)=true:=(bb9 a l hl).g;unfold Vb5;unfold ja6;simp only[s8,ta7,p8,ad1,ad2,hok,hp,hq,J1];unfold ca2;by_cases h:ca5 (a::l)=0
 ·obtain⟨h1,h2,h3⟩:=ma3 h;have hF:OkF (F0 (a::l)):=⟨Oc8 h1 h2,λp hp=>(yd0 hp).ok⟩
  obtain⟨m,r,e1,e2,e3,e4⟩:=Cc9 a l (by omega)
  obtain⟨m',r',k1,k2,k3⟩:=Xc3 r m e2 (F0 (a::l)) e4 hF;rw[if_pos h,if_pos h];simp only[e1,k1];refine⟨_,(r'.take m',0),rfl,?_,by rw[k3,e3];rfl⟩
  have h:(r1L tV).rd [⟨28,3,bL tV r',true,false,0⟩] (.sl 0 0 m' 0)=some (r'.take m'):=by
   show Bool.rec (motive:=λ_=>Option (List V3)) none (some (slR tV (bL tV r') 0 m')) (Bool.and true (okS tV (bL tV r') 0 m'))=_
   rw[uc8 _ _ k2,Ob2 _ _ k2];rfl
  simp only[two,h];rfl
 ·have hne:(ca5 (a::l) != 0)=true:=bne_iff_ne.2 h;rw[if_neg h,if_neg h];simp only[hne,J1];exact⟨_,([],ca5 (a::l)),rfl,rfl,rfl⟩
noncomputable def Vb6(l:List V3):List V3×Int:=Vb5 l
noncomputable def eb5(l:List V3):Bool:=decide (1<=l.length/\l.length<=900000)
noncomputable def Vb7:Sum:=O8 (Ba4 tV) λl=>.guard (eb5 l) (.ret ((two (r1L tV) r1I).enc (Vb6 l),[]))
theorem Ob4:g9 prog G 17 Vb7:=by
 refine vd4 (pb1 Ub2 λa r hr=>?_) (pb1 Mb2 λa r hr=>?_) (pb1 Mb4 λa r hr=>?_)
 ·obtain⟨p,c⟩:=a;obtain⟨hg,hr⟩:=DT.run_guard_some hr;have hl:c.length<=900000:=by
   have:=(of_decide_eq_true hg).2
   simp only[List.length_cons] at this;omega
  have hp:kb7 (p,c)=Vb5 (p::c):=(Gb7 p c hl).p;have hq:kb8 (p,c)=true:=(Gb7 p c hl).g;rw[hp,hq];exact hr
 ·obtain⟨hg,hr⟩:=DT.run_guard_some hr;exact absurd (of_decide_eq_true hg).1 (by simp)
 ·obtain⟨hg,hr⟩:=DT.run_guard_some hr;exact absurd (of_decide_eq_true hg).1 (by simp)
set_option maxRecDepth 100000
structure Od1 where
 (V9 W0 W4 Sd9 e8 e7 g8:Int)
structure Od2 where
 alt:Nat
 bs0:Bool
structure mc4 where
 V2:List Pln
 (e8 e7 g8:Int)
structure Yb9 where
 V2:List Pln
 (is7 e8 e7 g8:Int)
structure Zb0 where
 is8:Int
structure mc5 where
 alt:Nat
 is0:Int
structure Vb8 where
 V2:List Pln
 (e8 e7 g8:Int)
structure Vb9 where
 alt:Nat
 bs0:Bool
noncomputable def Qb9:List (Nat×Sum):=[]
theorem Dc1:n8 prog G Qb9:=trivial
structure va9 where
 wa8:List V3
 ce5:Int
structure Y7 where
 (mb7 ma7 ma8 ma9 qa7 qa8 qa9:Int)
noncomputable def tb9(p:va9)(s:Y7):St:=⟨.unk::.unk::.ptr 0 0 0 0::.ptr 1 0 0 0::.unk::.ptr 2 0 0 0::.ptr 3 0 0 0::ra 13 (eL tV p.wa8::i p.ce5::i s.mb7::ra 38 []),[⟨0,3,[[i 0,i 0,i 0]],true,false,0⟩,⟨0,3,[[i 0,i 0,i 0]],true,false,0⟩,⟨0,3,[[i s.ma7,i s.ma8,i s.ma9]],true,false,0⟩,⟨0,3,[[i s.qa7,i s.qa8,i s.qa9]],true,false,0⟩]⟩
noncomputable def ja7{α:Type}(k:Y7->α)(e:Nat->α)(z:α)(p:va9)(s:Y7):α:=(sl (decide (s.mb7<p.ce5)) (sl (inB s.mb7 (List.length p.wa8)) (k ⟨W (s.mb7+1),(if (gL tV p.wa8 s.mb7.toNat).x<s.ma7 then (gL tV p.wa8 s.mb7.toNat).x else s.ma7),(if (gL tV p.wa8 s.mb7.toNat).y<s.ma8 then (gL tV p.wa8 s.mb7.toNat).y else s.ma8),(if (gL tV p.wa8 s.mb7.toNat).z<s.ma9 then (gL tV p.wa8 s.mb7.toNat).z else s.ma9),(if (gL tV p.wa8 s.mb7.toNat).x>s.qa7 then (gL tV p.wa8 s.mb7.toNat).x else s.qa7),(if (gL tV p.wa8 s.mb7.toNat).y>s.qa8 then (gL tV p.wa8 s.mb7.toNat).y else s.qa8),(if (gL tV p.wa8 s.mb7.toNat).z>s.qa9 then (gL tV p.wa8 s.mb7.toNat).z else s.qa9)⟩) z) (e 1))
noncomputable def ga4(p:va9)(s:Y7):Stp Y7:=ja7 .next .exit .fail p s
noncomputable def cb0:Lo va9 Y7:=⟨En Qb9,0,fe3,[1,1,1,0,1,4,4],[2,3,5,6,20,21,22],.p,[⟨sUq::sUq::sPq 0::sPq 1::sUq::sPq 2::sPq 3::ru2 13 (sLq tV::sIq::sIq::ru2 38 []),[⟨0,3,true,some [[.o (.lit .i64 0),.o (.lit .i64 0),.o (.lit .i64 0)]]⟩,⟨0,3,true,some [[.o (.lit .i64 0),.o (.lit .i64 0),.o (.lit .i64 0)]]⟩,⟨0,3,true,some [kLq 3]⟩,⟨0,3,true,some [kLq 3]⟩],λa H=>(⟨aLq tV a 20,aIq a 21⟩,⟨aIq a 22,hIq H 2 0 0,hIq H 2 0 1,hIq H 2 0 2,hIq H 3 0 0,hIq H 3 0 1,hIq H 3 0 2⟩)⟩],ga4,[(some 0,λp s=>upq (tb9 p s) [(23,b (decide (s.mb7<p.ce5)))])],tb9⟩
theorem pc5:cb0.Ok:=Lo.ok [] (by kernel_rfl) .nil rfl (.cons (λa H=>by kernel_rfl) .nil) λp s=>(.of @ja7 (λF _ _ _ _ _=>by unfold ja7;(repeat' apply w8 (f:=F))<;>rfl) (by kernel_rfl))
noncomputable def Na6(x:List V3):Option (a7×List c7):=let t1:=(lp (ga4 (⟨rt tV x,(↑(List.length x):Int)⟩:va9)) (⟨0,(gL tV x 0).x,(gL tV x 0).y,(gL tV x 0).z,(gL tV x 0).x,(gL tV x 0).y,(gL tV x 0).z⟩:Y7));(sl ((↑(List.length x):Int)==0) (some (.tup [.agg [i 0,i 0,i 0],.agg [i 0,i 0,i 0],b false],[])) (sl (inB 0 (List.length x)) (sl (inB 0 (List.length x)) (sl ((cnE tV x)&&true) (sl (Nat.beq t1.1 1) (some (.tup [.agg [i t1.2.ma7,i t1.2.ma8,i t1.2.ma9],.agg [i t1.2.qa7,i t1.2.qa8,i t1.2.qa9],b true],[])) none) none) none) none))
noncomputable def cb1(x:List V3):V3×V3×Bool:=T8 (db2 r1V r1V r1B) (Na6 x)
noncomputable def cb2(x:List V3):Bool:=okO (db2 r1V r1V r1B) (Na6 x)
noncomputable def kc0:Sum:=O8 (Ba4 tV) (λx=>.guard (cb2 x) (.ret ((db2 r1V r1V r1B).enc (cb1 x),[])))
theorem Oc9:g9 prog G 37 kc0:=Sa0 (bd b37 Dc1) (db2 r1V r1V r1B) (o:=Na6) λx=>qb5 (.s .p (.s .p (.s .p (.s (.s .p (.b (.u cb0.ls))) .p)))) [cb0.pr] (by kernel_rfl) (.cons pc5 .nil) (by kernel_rfl)
noncomputable def kc1:List (Nat×Sum):=[]
theorem Wb0:n8 prog G kc1:=trivial
noncomputable def Ta9(x:V3)(y:V3):Option (a7×List c7):=(some (.sl 0 0 8 0,[⟨28,3,[[i x.x,i x.y,i x.z],[i y.x,i x.y,i x.z],[i x.x,i y.y,i x.z],[i y.x,i y.y,i x.z],[i x.x,i x.y,i y.z],[i y.x,i x.y,i y.z],[i x.x,i y.y,i y.z],[i y.x,i y.y,i y.z]],true,false,0⟩]))
noncomputable def Ua0(x:V3)(y:V3):List V3:=T8 (one (r1L tV)) (Ta9 x y)
noncomputable def Ua1(x:V3)(y:V3):Bool:=okO (one (r1L tV)) (Ta9 x y)
noncomputable def ub0:Sum:=Oa1 (ta8 tV) (ta8 tV) (λx y=>.guard (Ua1 x y) (.ret ((one (r1L tV)).enc (Ua0 x y),[])))
theorem kc2:g9 prog G 12 ub0:=Sb0 (bd b12 Wb0) (one (r1L tV)) (o:=Ta9) λx y=>F8 (by kernel_rfl)
structure aa4 where
 (V9 W0 W4:Int)
 ed9:Nat
 Ed3:Nat->List a7
 (Ed4 Ed5 Ed6:Int)
noncomputable def Ca2:List (Nat×Sum):=[(8,Ba5),(7,Z4),(6,ca6)]
theorem fb3:n8 prog G Ca2:=⟨Fa7,ba4,da1,trivial⟩
structure M0 where
 je3:Nat
 yb1:Nat->List a7
 (ce6 e8 e7 g8:Int)
 Qd1:Nat
 Qd2:Nat->List a7
 (H8 H9 I0:Int)
structure m8 where
 (Oa8 qa7 qa8 qa9:Int)
noncomputable def wa0(p:M0)(s:m8):St:=⟨.unk::.unk::.ptr 0 0 0 0::.ptr 1 0 0 0::.ptr 2 0 0 0::.ptr 3 0 0 0::ra 4 (.tree 3 p.je3 p.yb1::i p.ce6::i s.Oa8::ra 27 []),[⟨0,4,[[i p.e8,i p.e7,i p.g8,.tree 3 p.Qd1 p.Qd2]],true,false,0⟩,⟨0,3,[[i p.H8,i p.H9,i p.I0]],true,false,0⟩,⟨0,3,[[i 0,i 0,i 0]],true,false,0⟩,⟨0,3,[[i s.qa7,i s.qa8,i s.qa9]],true,false,0⟩]⟩
noncomputable def w6{α:Type}(k:m8->α)(e:Nat->α)(z:α)(p:M0)(s:m8):α:=let t1:=(r7 (⟨s.qa7,s.qa8,s.qa9⟩:V3) (⟨p.H8,p.H9,p.I0⟩:V3));let t2:=(r7 (⟨toI (hdA (p.yb1 s.Oa8.toNat)),toI (hdA (tlA (p.yb1 s.Oa8.toNat))),toI (hdA (tlA (tlA (p.yb1 s.Oa8.toNat))))⟩:V3) (⟨p.H8,p.H9,p.I0⟩:V3));let t3:=(q8 t1 t2);let t4:=(p9 (⟨p.e8,p.e7,p.g8⟩:V3) t3);(sl (decide (s.Oa8<p.ce6)) (sl (inB s.Oa8 p.je3) (sl ((Nat.ble 3 (len (p.yb1 s.Oa8.toNat)))&&(Ea9 [CK.int .i64,CK.int .i64,CK.int .i64] (p.yb1 s.Oa8.toNat))) (sl (!(((toI (hdA (p.yb1 s.Oa8.toNat)))==p.H8)&&(((toI (hdA (tlA (p.yb1 s.Oa8.toNat))))==p.H9)&&(((toI (hdA (tlA (tlA (p.yb1 s.Oa8.toNat)))))==p.I0)&&true)))) (sl ((s.qa7==p.H8)&&((s.qa8==p.H9)&&((s.qa9==p.I0)&&true))) (k ⟨W (s.Oa8+1),toI (hdA (p.yb1 s.Oa8.toNat)),toI (hdA (tlA (p.yb1 s.Oa8.toNat))),toI (hdA (tlA (tlA (p.yb1 s.Oa8.toNat))))⟩) (sl (decide (t4<0)) (k ⟨W (s.Oa8+1),toI (hdA (p.yb1 s.Oa8.toNat)),toI (hdA (tlA (p.yb1 s.Oa8.toNat))),toI (hdA (tlA (tlA (p.yb1 s.Oa8.toNat))))⟩) (k ⟨W (s.Oa8+1),s.qa7,s.qa8,s.qa9⟩))) (k ⟨W (s.Oa8+1),s.qa7,s.qa8,s.qa9⟩)) z) z) (e 1))
noncomputable def K5(p:M0)(s:m8):Stp m8:=w6 .next .exit .fail p s
noncomputable def ha2:Lo M0 m8:=⟨En Ca2,0,ee9,[1,1,0,1,4,4],[2,3,4,5,10,11,12],.p,[⟨sUq::sUq::sPq 0::sPq 1::sPq 2::sPq 3::ru2 4 (sTq 3::sIq::sIq::ru2 27 []),[⟨0,4,true,some [[.o (.int .i64),.o (.int .i64),.o (.int .i64),.o (.tree 3)]]⟩,⟨0,3,true,some [kLq 3]⟩,⟨0,3,true,some [[.o (.lit .i64 0),.o (.lit .i64 0),.o (.lit .i64 0)]]⟩,⟨0,3,true,some [kLq 3]⟩],λa H=>(⟨aNq a 10,aGq a 10,aIq a 11,hIq H 0 0 0,hIq H 0 0 1,hIq H 0 0 2,hNq H 0 0 3,hGq H 0 0 3,hIq H 1 0 0,hIq H 1 0 1,hIq H 1 0 2⟩,⟨aIq a 12,hIq H 3 0 0,hIq H 3 0 1,hIq H 3 0 2⟩)⟩],K5,[(some 0,λp s=>upq (wa0 p s) [(13,b (decide (s.Oa8<p.ce6)))])],wa0⟩
theorem cb3:ha2.Ok:=Lo.ok [] (by kernel_rfl) .nil rfl (.cons (λa H=>by kernel_rfl) .nil) λp s=>(.of @w6 (λF _ _ _ _ _=>by unfold w6;(repeat' apply w8 (f:=F))<;>rfl) (by kernel_rfl))
structure aa5 where
 alt:Nat
 (V9 W0 W4:Int)
noncomputable def K9{α:Type}(kk:aa5->α)(x:aa4):α:=let t1:=(lp (K5 (⟨x.ed9,x.Ed3,(↑x.ed9:Int),x.V9,x.W0,x.W4,x.ed9,x.Ed3,x.Ed4,x.Ed5,x.Ed6⟩:M0)) (⟨0,x.Ed4,x.Ed5,x.Ed6⟩:m8));(sl (Nat.beq t1.1 1) (kk ⟨1,t1.2.qa7,t1.2.qa8,t1.2.qa9⟩) (kk ⟨0,0,0,0⟩))
noncomputable def S1(x:aa4):aa5:=K9 (λr=>r) x
noncomputable def ja8(x:aa4)(r:aa5):DT (a7×List c7):=(.ite (Nat.beq r.alt 1) (.ret (.agg [i r.V9,i r.W0,i r.W4],[])) .fail)
theorem rb2{α β:Type}(F:α->β)(kk:aa5->α)(x:aa4):F (K9 kk x)=K9 (λr=>F (kk r)) x:=by unfold K9;(repeat' apply w8 (f:=F))<;>rfl
noncomputable def Fa1:Sum:=Va3 ⟨[.agg [.o (.int .i64),.o (.int .i64),.o (.int .i64),.o (.tree 3)],.agg (kLq 3)],[],λa H=>(⟨cIq a 0 0,cIq a 0 1,cIq a 0 2,cNq a 0 3,cGq a 0 3,cIq a 1 0,cIq a 1 1,cIq a 1 2⟩,())⟩ (λx=>ja8 x (S1 x))
theorem mb1:g9 prog G 22 Fa1:=S4 (enc:=λx=>⟨[.agg [i x.V9,i x.W0,i x.W4,.tree 3 x.ed9 x.Ed3],.agg [i x.Ed4,i x.Ed5,i x.Ed6]],[]⟩) (λa H=>by kernel_rfl) (bd b22 fb3) λx=>qb5 (.s .p (.s .p (.s (.s .p (.b (.u ha2.ls))) .p))) [ha2.pr] (by kernel_rfl) (.cons cb3 .nil) (Eq.trans (b:=K9 (λr=>(ja8 x r).run) x) (by kernel_rfl) (rb2 (λr=>(ja8 x r).run) (λr=>r) x).symm)
noncomputable def ub1:List (Nat×Sum):=[(7,Z4),(6,ca6)]
theorem kc3:n8 prog G ub1:=⟨ba4,da1,trivial⟩
@[reducible] noncomputable def cb4:Sum:=Ob9 (En ub1) ee7
theorem ub2:g9 prog G 19 cb4:=bd b19 kc3
structure Ha3 where
 (V9 W0 W4 is1 wc0 wc1 wc2:Int)
 wc3:Nat
 wc4:Nat->List a7
 e8:Int
noncomputable def ub3:List (Nat×Sum):=[(22,Fa1),(7,Z4),(6,ca6),(19,cb4)]
theorem kc4:n8 prog G ub3:=⟨mb1,ba4,da1,ub2,trivial⟩
structure ja9 where
 (wc0 wc1 wc2:Int)
 wc3:Nat
 wc4:Nat->List a7
 (ce7 H8 H9 I0:Int)
structure O6 where
 (Qd3 e8 ma7 ma8 ma9:Int)
noncomputable def eb6(p:ja9)(s:O6):St:=⟨.unk::.unk::.fn 100022 [i p.wc0,i p.wc1,i p.wc2,.tree 3 p.wc3 p.wc4]::.fn 19 [.ptr 0 0 0 0]::.ptr 1 0 0 0::ra 3 (.ptr 2 0 0 0::ra 5 (i p.ce7::i s.Qd3::ra 11 [])),[⟨0,1,[[i s.e8]],true,false,0⟩,⟨0,3,[[i p.H8,i p.H9,i p.I0]],true,false,0⟩,⟨0,3,[[i s.ma7,i s.ma8,i s.ma9]],true,false,0⟩]⟩
noncomputable def N4{α:Type}(k:O6->α)(e:Nat->α)(z:α)(p:ja9)(s:O6):α:=let t1:=(S1 ⟨p.wc0,p.wc1,p.wc2,p.wc3,p.wc4,s.ma7,s.ma8,s.ma9⟩);let t2:=(q8 (⟨p.H8,p.H9,p.I0⟩:V3) (⟨s.ma7,s.ma8,s.ma9⟩:V3));let t3:=(p9 t2 (⟨t1.V9,t1.W0,t1.W4⟩:V3));(sl (decide (s.Qd3<p.ce7)) (sl (Nat.beq t1.alt 1) (k ⟨W (s.Qd3+1),W (s.e8+t3),t1.V9,t1.W0,t1.W4⟩) z) (e 1))
noncomputable def fa5(p:ja9)(s:O6):Stp O6:=N4 .next .exit .fail p s
noncomputable def Na7:Lo ja9 O6:=⟨En ub3,1,ee8,[1,1,1,4,4],[2,3,4,8,14,15],.p,[⟨sUq::sUq::.fn 100022 [.o (.int .i64),.o (.int .i64),.o (.int .i64),.o (.tree 3)]::.fn 19 [.o (.ptr 0 0 0 0)]::sPq 1::ru2 3 (sPq 2::ru2 5 (sIq::sIq::ru2 11 [])),[⟨0,1,true,some [[.o (.int .i64)]]⟩,⟨0,3,true,some [kLq 3]⟩,⟨0,3,true,some [kLq 3]⟩],λa H=>(⟨cIq a 2 0,cIq a 2 1,cIq a 2 2,cNq a 2 3,cGq a 2 3,aIq a 14,hIq H 1 0 0,hIq H 1 0 1,hIq H 1 0 2⟩,⟨aIq a 15,hIq H 0 0 0,hIq H 2 0 0,hIq H 2 0 1,hIq H 2 0 2⟩)⟩],fa5,[(some 0,λp s=>upq (eb6 p s) [(16,b (decide (s.Qd3<p.ce7)))])],eb6⟩
theorem Wb1:Na7.Ok:=Lo.ok [] (by kernel_rfl) .nil rfl (.cons (λa H=>by kernel_rfl) .nil) λp s=>(.of @N4 (λF _ _ _ _ _=>by unfold N4;(repeat' apply w8 (f:=F))<;>rfl) (by kernel_rfl))
structure Ha4 where
 alt:Nat
 e8:Int
noncomputable def ma4{α:Type}(kk:Ha4->α)(x:Ha3):α:=let t1:=(S1 ⟨x.wc0,x.wc1,x.wc2,x.wc3,x.wc4,x.V9,x.W0,x.W4⟩);let t2:=(lp (fa5 (⟨x.wc0,x.wc1,x.wc2,x.wc3,x.wc4,W (x.is1-2),x.V9,x.W0,x.W4⟩:ja9)) (⟨0,x.e8,t1.V9,t1.W0,t1.W4⟩:O6));(sl (Nat.beq t1.alt 1) (sl (Nat.beq t2.1 1) (kk ⟨1,t2.2.e8⟩) (kk ⟨0,0⟩)) (kk ⟨0,0⟩))
noncomputable def Ha5(x:Ha3):Ha4:=ma4 (λr=>r) x
noncomputable def Ua2(x:Ha3)(r:Ha4):DT (a7×List c7):=(.ite (Nat.beq r.alt 1) (.ret (.tup [],[⟨0,1,[[i r.e8]],true,false,0⟩])) .fail)
theorem Dc2{α β:Type}(F:α->β)(kk:Ha4->α)(x:Ha3):F (ma4 kk x)=ma4 (λr=>F (kk r)) x:=by unfold ma4;(repeat' apply w8 (f:=F))<;>rfl
noncomputable def Gb8:Sum:=Va3 ⟨[.agg (kLq 3),sIq,.fn 100022 [.o (.int .i64),.o (.int .i64),.o (.int .i64),.o (.tree 3)],.fn 19 [.o (.ptr 0 0 0 0)]],[⟨0,1,true,some [[.o (.int .i64)]]⟩],λa H=>(⟨cIq a 0 0,cIq a 0 1,cIq a 0 2,aIq a 1,cIq a 2 0,cIq a 2 1,cIq a 2 2,cNq a 2 3,cGq a 2 3,hIq H 0 0 0⟩,())⟩ (λx=>Ua2 x (Ha5 x))
theorem pc6:g9 prog G 21 Gb8:=S4 (enc:=λx=>⟨[.agg [i x.V9,i x.W0,i x.W4],i x.is1,.fn 100022 [i x.wc0,i x.wc1,i x.wc2,.tree 3 x.wc3 x.wc4],.fn 19 [.ptr 0 0 0 0]],[⟨0,1,[[i x.e8]],true,false,0⟩]⟩) (λa H=>by kernel_rfl) (bd b21 kc4) λx=>qb5 (.s .p (.s .p (.s .p (.b (.u Na7.ls))))) [Na7.pr] (by kernel_rfl) (.cons Wb1 .nil) (Eq.trans (b:=ma4 (λr=>(Ua2 x r).run) x) (by kernel_rfl) (Dc2 (λr=>(Ua2 x r).run) (λr=>r) x).symm)
theorem Dc3:Aa5 []=ca2 []/\Aa6 []=true:=by
 have h:pa0 []=some (.tup [.v (.slice none 0 0),i 11],[]):=by
  unfold pa0;simp only[s8,ta7,p8,jc6 [] (by simp),jc5 [] (by simp),Gb6]
  rfl
 unfold Aa5 Aa6 ca2;rw[h,Gb6];exact⟨rfl,rfl⟩
theorem he9:Ea5 []=Vb5 []/\Ea6 []=true:=by
 have h:fa3 []=some (.tup [.v (.slice none 0 0),i 11],[]):=by
  unfold fa3;simp only[s8,ta7,p8,Dc3.1,Dc3.2,ca2,Gb6];rfl
 unfold Ea5 Ea6 Vb5;rw[h,Gb6];exact⟨rfl,rfl⟩
theorem dd7 {α : Type} {f : Nat} {c : Cod α} {k kA kB : α → DT (a7 × List c7)} (hA : g9 prog G f (O8 c kA)) (hB : g9 prog G f (O8 c kB))
  (h:∀a r,(k a).run=some r->(kA a).run=some r\/(kB a).run=some r):g9 prog G f (O8 c k):=λargs blks r out he=>by
 unfold O8 at he
 split at he
 ·rename_i x;cases hd:c.dec x with
  |none=>rw[hd] at he;cases he
  |some a =>
   rw[hd] at he;obtain⟨h1,h2⟩:=DT.run_guard_some (show (DT.guard (c.grd x) (k a)).run=some (r,out) from he)
   rcases h a _ h2 with q|q
   ·refine hA [x] [] r out ?_;show (onO (c.dec x) λa=>DT.guard (c.grd x) (kA a)).run=_
    rw[hd];show (DT.guard (c.grd x) (kA a)).run=_;rw[h1];exact q
   ·refine hB [x] [] r out ?_;show (onO (c.dec x) λa=>DT.guard (c.grd x) (kB a)).run=_
    rw[hd];show (DT.guard (c.grd x) (kB a)).run=_;rw[h1];exact q
 ·cases he
noncomputable def Ua3(l:List V3):List Pln×Int:=ca2 l
noncomputable def Ua4(l:List V3):Bool:=decide (l.length<=900000)
noncomputable def ub4:Sum:=O8 (Ba4 tV) λl=>.guard (Ua4 l) (.ret ((two (r1L tP) r1I).enc (Ua3 l),[]))
theorem kc5:g9 prog G 18 ub4:=dd7 jc9 lb1 λl r hr=>by
 obtain⟨hg,hr⟩:=DT.run_guard_some hr;cases l with
 |nil=>right;rw[Dc3.1,Dc3.2];exact hr
 |cons a c =>
  left
  have:=of_decide_eq_true hg
  rw[show tb8 (a::c)=true from decide_eq_true ⟨by simp,this⟩]
  exact hr
noncomputable def Ea7(l:List V3):List V3×Int:=Vb5 l
noncomputable def Ea8(l:List V3):Bool:=decide (l.length<=900000)
noncomputable def eb7:Sum:=O8 (Ba4 tV) λl=>.guard (Ea8 l) (.ret ((two (r1L tV) r1I).enc (Ea7 l),[]))
theorem Ob5:g9 prog G 17 eb7:=dd7 Ob4 Mb6 λl r hr=>by
 obtain⟨hg,hr⟩:=DT.run_guard_some hr;cases l with
 |nil=>right;rw[he9.1,he9.2];exact hr
 |cons a c =>
  left
  have:=of_decide_eq_true hg
  rw[show eb5 (a::c)=true from decide_eq_true ⟨by simp,this⟩]
  exact hr
noncomputable def Ua5:List (Nat×Sum):=[(17,eb7),(18,ub4),(20,ua6),(21,Gb8),(19,cb4)]
theorem kc6:n8 prog G Ua5:=⟨Ob5,kc5,Aa0,pc6,ub2,trivial⟩
structure K6 where
 fb0:List V3
 ca4:List Pln
 (Yc3 Ua7:Int)
 ra5:List V3
 (Yc4 e8 H8 H9 I0 Ha7 ma7 ma8 ma9:Int)
structure o0 where
 ph:Nat
 Oa9:Int
 Ha8:Nat
 eh3:List (List a7)
noncomputable def Ya3(p:K6)(s:o0):St:=⟨ra 4 (eL tV p.fb0::.unk::.unk::.ptr 0 0 0 0::.fn 19 [.ptr 0 0 0 0]::.unk::.ptr 1 0 0 0::.ptr 2 0 0 0::ra 19 (eL tP p.ca4::i p.Yc3::i p.Ua7::ra 6 (eL tV p.ra5::i p.Yc4::i s.Oa9::ra 31 []))),[⟨0,1,[[i p.e8]],true,false,0⟩,⟨0,4,[[i p.H8,i p.H9,i p.I0,i p.Ha7]],true,false,0⟩,⟨0,0,[[i p.ma7,i p.ma8,i p.ma9,.v (.slice none 0 0)]],true,false,0⟩]⟩
noncomputable def Ya4(p:K6)(s:o0):St:=⟨ra 4 (eL tV p.fb0::.unk::.unk::.ptr 0 0 0 0::.fn 19 [.ptr 0 0 0 0]::.unk::.ptr 1 0 0 0::.ptr 2 0 0 0::ra 19 (eL tP p.ca4::i p.Yc3::i p.Ua7::ra 6 (eL tV p.ra5::i p.Yc4::i s.Oa9::ra 31 []))),[⟨0,1,[[i p.e8]],true,false,0⟩,⟨0,4,[[i p.H8,i p.H9,i p.I0,i p.Ha7]],true,false,0⟩,⟨0,0,[[i p.ma7,i p.ma8,i p.ma9,.sl 3 0 s.Ha8 0]],true,false,0⟩,⟨28,3,s.eh3,true,false,0⟩]⟩
noncomputable def Wb2(p:K6)(s:o0):St:=(sel (Nat.beq s.ph 1) (Ya4 p s) (Ya3 p s))
noncomputable def N5{α:Type}(k:o0->α)(e:Nat->α)(z:α)(p:K6)(s:o0):α:=let t1:=(J2 (⟨(⟨p.H8,p.H9,p.I0⟩:V3),p.Ha7⟩:Pln) (gL tV p.ra5 s.Oa9.toNat));(sl (decide (s.Oa9<p.Yc4)) (sl (inB s.Oa9 (List.length p.ra5)) (sl (S6 (⟨(⟨p.H8,p.H9,p.I0⟩:V3),p.Ha7⟩:Pln) (gL tV p.ra5 s.Oa9.toNat)) (sl (t1==0) (k ⟨1,W (s.Oa9+1),1,[[i (gL tV p.ra5 s.Oa9.toNat).x,i (gL tV p.ra5 s.Oa9.toNat).y,i (gL tV p.ra5 s.Oa9.toNat).z]]⟩) (k ⟨0,W (s.Oa9+1),0,[]⟩)) z) z) (e 1))
noncomputable def N6{α:Type}(k:o0->α)(e:Nat->α)(z:α)(p:K6)(s:o0):α:=let t1:=(J2 (⟨(⟨p.H8,p.H9,p.I0⟩:V3),p.Ha7⟩:Pln) (gL tV p.ra5 s.Oa9.toNat));(sl (decide (s.Oa9<p.Yc4)) (sl (inB s.Oa9 (List.length p.ra5)) (sl (S6 (⟨(⟨p.H8,p.H9,p.I0⟩:V3),p.Ha7⟩:Pln) (gL tV p.ra5 s.Oa9.toNat)) (sl (t1==0) (sl (Nat.beq s.Ha8 (len s.eh3)&&Nat.ble ((s.Ha8+1)*24) room) (k ⟨1,W (s.Oa9+1),s.Ha8+1,app s.eh3 [[i (gL tV p.ra5 s.Oa9.toNat).x,i (gL tV p.ra5 s.Oa9.toNat).y,i (gL tV p.ra5 s.Oa9.toNat).z]]⟩) z) (k ⟨1,W (s.Oa9+1),s.Ha8,s.eh3⟩)) z) z) (e 2))
noncomputable def fa6(p:K6)(s:o0):Stp o0:=(sel (Nat.beq s.ph 1) (N6 .next .exit .fail p s) (N5 .next .exit .fail p s))
noncomputable def Na8:Lo K6 o0:=⟨En Ua5,0,pf9,[1,1,1,1,1,1,1,0,1,4,4,1,1,0,4,1,1,0,1,4,4],[4,7,8,10,11,31,32,33,40,41,42],.p,[⟨ru2 4 (sLq tV::sUq::sUq::sPq 0::.fn 19 [.o (.ptr 0 0 0 0)]::sUq::sPq 1::sPq 2::ru2 19 (sLq tP::sIq::sIq::ru2 6 (sLq tV::sIq::sIq::ru2 31 []))),[⟨0,1,true,some [[.o (.int .i64)]]⟩,⟨0,4,true,some [kLq 4]⟩,⟨0,0,true,some [[.o (.int .i64),.o (.int .i64),.o (.int .i64),.o .nil]]⟩],λa H=>(⟨aLq tV a 4,aLq tP a 31,aIq a 32,aIq a 33,aLq tV a 40,aIq a 41,hIq H 0 0 0,hIq H 1 0 0,hIq H 1 0 1,hIq H 1 0 2,hIq H 1 0 3,hIq H 2 0 0,hIq H 2 0 1,hIq H 2 0 2⟩,⟨0,aIq a 42,0,[]⟩)⟩,⟨ru2 4 (sLq tV::sUq::sUq::sPq 0::.fn 19 [.o (.ptr 0 0 0 0)]::sUq::sPq 1::sPq 2::ru2 19 (sLq tP::sIq::sIq::ru2 6 (sLq tV::sIq::sIq::ru2 31 []))),[⟨0,1,true,some [[.o (.int .i64)]]⟩,⟨0,4,true,some [kLq 4]⟩,⟨0,0,true,some [[.o (.int .i64),.o (.int .i64),.o (.int .i64),.o (.sl 3 0 (some 0) none)]]⟩,⟨28,3,true,none⟩],λa H=>(⟨aLq tV a 4,aLq tP a 31,aIq a 32,aIq a 33,aLq tV a 40,aIq a 41,hIq H 0 0 0,hIq H 1 0 0,hIq H 1 0 1,hIq H 1 0 2,hIq H 1 0 3,hIq H 2 0 0,hIq H 2 0 1,hIq H 2 0 2⟩,⟨1,aIq a 42,slN (slT (rwT (elT H 2) 0) 3),elT H 3⟩)⟩],fa6,[(some 2,λp s=>upq (Ya3 p s) [(43,b (decide (s.Oa9<p.Yc4)))]),(some 2,λp s=>upq (Ya4 p s) [(43,b (decide (s.Oa9<p.Yc4)))])],Wb2⟩
theorem Wb3:Na8.OkM:=Lo.okM [] (by kernel_rfl) .nil rfl (.cons (λa H=>by kernel_rfl) (.cons (λa H=>by kernel_rfl) .nil)) λp s=>(.sel (Nat.beq s.ph 1) (.of @N6 (λF _ _ _ _ _=>by unfold N6;(repeat' apply w8 (f:=F))<;>rfl) (by kernel_rfl)) (.of @N5 (λF _ _ _ _ _=>by unfold N5;(repeat' apply w8 (f:=F))<;>rfl) (by kernel_rfl)))
structure ka0 where
 Yc3:Int
structure G7 where
 fb0:List V3
 ca4:List Pln
 (Ua7 e8:Int)
noncomputable def eb8(p:ka0)(s:G7):St:=⟨ra 4 (eL tV s.fb0::.unk::.unk::.ptr 0 0 0 0::.fn 19 [.ptr 0 0 0 0]::ra 22 (eL tP s.ca4::i p.Yc3::i s.Ua7::ra 40 [])),[⟨0,1,[[i s.e8]],true,false,0⟩]⟩
noncomputable def N7{α:Type}(k:G7->α)(e:Nat->α)(z:α)(p:ka0)(s:G7):α:=let t1:=(lp (fa6 (⟨rt tV s.fb0,rt tP s.ca4,p.Yc3,s.Ua7,rt tV s.fb0,(↑(List.length s.fb0):Int),s.e8,(gL tP s.ca4 s.Ua7.toNat).n.x,(gL tP s.ca4 s.Ua7.toNat).n.y,(gL tP s.ca4 s.Ua7.toNat).n.z,(gL tP s.ca4 s.Ua7.toNat).b,(gL tP s.ca4 s.Ua7.toNat).n.x,(gL tP s.ca4 s.Ua7.toNat).n.y,(gL tP s.ca4 s.Ua7.toNat).n.z⟩:K6)) (⟨0,0,0,[]⟩:o0));let t2:=(Ha5 ⟨(rdR tV t1.2.eh3 0).x,(rdR tV t1.2.eh3 0).y,(rdR tV t1.2.eh3 0).z,(↑t1.2.Ha8:Int),(gL tP s.ca4 s.Ua7.toNat).n.x,(gL tP s.ca4 s.Ua7.toNat).n.y,(gL tP s.ca4 s.Ua7.toNat).n.z,t1.2.Ha8,(λk=>l9 t1.2.eh3 (0+k)),s.e8⟩);(sl (decide (s.Ua7<p.Yc3)) (sl (inB s.Ua7 (List.length s.ca4)) (sl ((cnE tV s.fb0)&&((cnE tP s.ca4)&&((cnE tV s.fb0)&&true))) (sl (Nat.beq t1.1 1) (k ⟨rt tV s.fb0,rt tP s.ca4,W (s.Ua7+1),s.e8⟩) (sl (Nat.beq t1.1 2) (sl (decide ((↑t1.2.Ha8:Int)>2)) (sl (inB 0 t1.2.Ha8) (sl (ldR tV t1.2.eh3 0) (sl (Nat.beq t2.alt 1) (k ⟨rt tV s.fb0,rt tP s.ca4,W (s.Ua7+1),t2.e8⟩) z) z) z) (k ⟨rt tV s.fb0,rt tP s.ca4,W (s.Ua7+1),s.e8⟩)) z)) z) z) (e 1))
noncomputable def fa7(p:ka0)(s:G7):Stp G7:=N7 .next .exit .fail p s
noncomputable def Na9:Lo ka0 G7:=⟨En Ua5,0,pf9,[1,1,1,1,1,1,1,0,1,4,4],[4,7,8,31,32,33],.s .p (.s .p (.s (.b (.s .p (.s .p (.s (.s .p (.b (.u Na8.lsM))) .p)))) .p)),[⟨ru2 4 (sLq tV::sUq::sUq::sPq 0::.fn 19 [.o (.ptr 0 0 0 0)]::ru2 22 (sLq tP::sIq::sIq::ru2 40 [])),[⟨0,1,true,some [[.o (.int .i64)]]⟩],λa H=>(⟨aIq a 32⟩,⟨aLq tV a 4,aLq tP a 31,aIq a 33,hIq H 0 0 0⟩)⟩],fa7,[(some 0,λp s=>upq (eb8 p s) [(34,b (decide (s.Ua7<p.Yc3)))])],eb8⟩
theorem Wb4:Na9.OkM:=Lo.okM [Na8.prM] (by kernel_rfl) (.cons Wb3 .nil) rfl (.cons (λa H=>by kernel_rfl) .nil) λp s=>(.of @N7 (λF _ _ _ _ _=>by unfold N7;(repeat' apply w8 (f:=F))<;>rfl) (by kernel_rfl))
noncomputable def wa1(x:List V3):Option (a7×List c7):=let t1:=(Ea7 (rt tV x));let t2:=(Ua3 (rt tV t1.1));let t3:=(lp (fa7 (⟨(↑(List.length t2.1):Int)⟩:ka0)) (⟨rt tV t1.1,rt tP t2.1,0,0⟩:G7));(sl (okE tV x) (sl (Ea8 (rt tV x)) (sl (t1.2 != 0) (some (.tup [i 0,i t1.2],[])) (sl (okE tV t1.1) (sl (Ua4 (rt tV t1.1)) (sl (t2.2 != 0) (some (.tup [i 0,i t2.2],[])) (sl ((cnE tV t1.1)&&((cnE tP t2.1)&&true)) (sl (Nat.beq t3.1 1) (some (.tup [i t3.2.e8,i 0],[])) none) none)) none) none)) none) none)
noncomputable def D6(x:List V3):Int×Int:=T8 (two r1I r1I) (wa1 x)
noncomputable def D7(x:List V3):Bool:=okO (two r1I r1I) (wa1 x)
noncomputable def wa2:Sum:=O8 (Ba4 tV) (λx=>.guard (D7 x) (.ret ((two r1I r1I).enc (D6 x),[])))
theorem Aa8:g9 prog G 9 wa2:=Sa0 (bd b9 kc6) (two r1I r1I) (o:=wa1) λx=>tc9 (.s .p (.s .p (.s .p (.s .p (.s .p (.s .p (.s .p (.s (.s .p (.b (.u Na9.lsM))) .p)))))))) [Na9.prM] (by kernel_rfl) (.cons Wb4 .nil) (by kernel_rfl)
end Go.Ev.Ce
namespace Go.Ev.Ce
def sig{α:Type}(l:List α)(f:α->Int):Int:=l.foldr (λx s=>f x+s) 0
section
variable{α β:Type}
theorem Ha6(f:α->Int):sig [] f=0:=rfl
theorem j6(x:α)(l:List α)(f:α->Int):sig (x::l) f=f x+sig l f:=rfl
theorem Zb1(f:α->Int):∀a c:List α,sig (a++c) f=sig a f+sig c f
 |[],c=>by rw[List.nil_append,Ha6,Qjau]
 |x::a,c=>by rw[List.cons_append,j6,j6,Zb1 f a c,Int.add_assoc]
theorem L0{f g:α->Int}:∀{l:List α},(∀x∈l,f x=g x)->sig l f=sig l g
 |[],_=>rfl
 |x::l,h=>by rw[j6,j6,h x (by simp),L0 λy hy=>h y (by simp[hy])]
theorem dd8(f g:α->Int):∀l:List α,sig l (λx=>f x+g x)=sig l f+sig l g
 |[]=>rfl
 |x::l=>by rw[j6,j6,j6,dd8 f g l];omega
theorem pb7(f g:α->Int):∀l:List α,sig l (λx=>f x-g x)=sig l f-sig l g
 |[]=>rfl
 |x::l=>by rw[j6,j6,j6,pb7 f g l];omega
theorem Dc4(f:α->Int):∀l:List α,sig l (λx=>-f x)=-sig l f
 |[]=>rfl
 |x::l=>by rw[j6,j6,Dc4 f l];omega
theorem dd9(k:Int)(f:α->Int):∀l:List α,sig l (λx=>k*f x)=k*sig l f
 |[]=>by rw[Ha6,Ha6,Qji]
 |x::l=>by rw[j6,j6,dd9 k f l,Int.mul_add]
theorem wa3{f:α->Int}:∀{l:List α},(∀x∈l,f x=0)->sig l f=0
 |[],_=>rfl
 |x::l,h=>by rw[j6,h x (by simp),wa3 λy hy=>h y (by simp[hy]),Qjau]
theorem Gb9(c:List β)(f:α->β->Int):∀a:List α,sig a (λx=>sig c (f x))=sig c (λy=>sig a (λx=>f x y))
 |[]=>(wa3 λ_ _=>rfl).symm
 |x::a=>by rw[j6,Gb9 c f a,<- dd8];exact L0 λy _=>rfl
theorem Hb0{f:α->Int}{a c:List α}(h:a.Perm c):sig a f=sig c f:=by
 induction h with
 |nil=>rfl
 |cons x _ ih=>rw[j6,j6,ih]
 |swap x y l=>rw[j6,j6,j6,j6];omega
 |trans _ _ h1 h2=>rw[h1,h2]
theorem Zb2(g:α->β)(f:β->Int):∀l:List α,sig (l.map g) f=sig l (λx=>f (g x))
 |[]=>rfl
 |x::l=>by rw[List.map_cons,j6,j6,Zb2 g f l]
theorem ya9(c:α->Bool)(f:α->Int):∀l:List α,sig (l.filter c) f=sig l (λx=>if c x=true then f x else 0)
 |[]=>rfl
 |x::l=>by
  rw[Qjx,j6];split
  ·rw[j6,ya9 c f l]
  ·rw[ya9 c f l,Qjau]
theorem zd7{f g:α->Int}:∀{l:List α},(∀x∈l,f x<=g x)->sig l f<=sig l g
 |[],_=>Qjax _
 |x::l,h=>by
  rw[j6,j6]
  have:=h x (by simp)
  have:=zd7 (l:=l) λy hy=>h y (by simp[hy])
  omega
theorem kc7{f:α->Int}{l:List α}(h:∀x∈l,0<=f x):0<=sig l f:=by
 have:=zd7 (f:=λ_=>0) h
 rw[wa3 (λ_ _=>rfl)] at this
 exact this
theorem cb5{f:α->Int}{x:α}:∀{l:List α},l.Nodup->x∈l->(∀y∈l,y≠x->f y=0)->sig l f=f x
 |[],_,h,_=>by cases h
 |y::l,hn,hx,h=>by
  obtain⟨h1,h2⟩:=List.nodup_cons.1 hn;rw[j6]
  rcases Qjm.1 hx with rfl|hx
  ·rw[wa3 (λz hz=>h z (by simp[hz]) λe=>h1 (e ▸ hz)),Qjat]
  ·rw[h y (by simp) (λe=>h1 (e ▸ hx)),cb5 h2 hx λz hz=>h z (by simp[hz]),Qjau]
theorem ed0{a c:List α}(ha:a.Nodup)(hc:c.Nodup)(h:∀x,x∈a↔x∈c):a.Perm c:=(List.perm_ext_iff_of_nodup ha hc).2 h
theorem zd8{f:α->Int}{a c:List α}(ha:a.Nodup)(hc:c.Nodup)(h:∀x,x∈a↔x∈c):sig a f=sig c f:=Hb0 (ed0 ha hc h)
theorem kc8{a c:List α}(ha:a.Nodup)(hc:c.Nodup)(hs:∀x∈a,x∈c)(hl:c.length<=a.length):a.Perm c:=by
 refine ed0 ha hc λx=>⟨hs x,λhx=>?_⟩
 apply Qjc;intro hn
 have:=List.Nodup.length_le_of_subset (List.nodup_cons.2 ⟨hn,ha⟩) (λy hy=>(Qjm.1 hy).elim (λe=>e ▸ hx) (hs y))
 simp only[List.length_cons] at this;omega
theorem zd9{a:List α}{f:α->α->Int}(h:∀x∈a,∀y∈a,f x y=-f y x):sig a (λx=>sig a (f x))=0:=by
 have e1:=Gb9 a f a;have e2:sig a (λy=>sig a λx=>f x y)=-sig a (λy=>sig a (f y)):=by
  rw[<- Dc4];refine L0 λy hy=>?_
  rw[<- Dc4];exact L0 λx hx=>h x hx y hy
 omega
end
end Go.Ev.Ce
namespace Go.Ev.Ce
open Go Go.Ev Go.Ev.L Go.Proofs
structure Ins(r:List Pln)(x:Pt):Prop where
 w:0<x.pw
 h:∀p∈r,0<rmZ p x
theorem Ins.inr{r:List Pln}{x:Pt}(h:Ins r x):Inr r x:=⟨h.w,λp hp=>Int.le_of_lt (h.h p hp)⟩
theorem Ins.mono{r r':List Pln}{x:Pt}(h:Ins r x)(hs:∀p∈r',p∈r):Ins r' x:=⟨h.w,λp hp=>h.h p (hs p hp)⟩
theorem Inr.mono{r r':List Pln}{x:Pt}(h:Inr r x)(hs:∀p∈r',p∈r):Inr r' x:=⟨h.w,λp hp=>h.h p (hs p hp)⟩
theorem Ins.app{r r':List Pln}{x:Pt}(h:Ins r x)(h':Ins r' x):Ins (r++r') x:=⟨h.w,λp hp=>(Qjae.1 hp).elim (h.h p) (h'.h p)⟩
theorem Inr.app{r r':List Pln}{x:Pt}(h:Inr r x)(h':Inr r' x):Inr (r++r') x:=⟨h.w,λp hp=>(Qjae.1 hp).elim (h.h p) (h'.h p)⟩
theorem far{f g:Pln->Int}:∀l:List Pln,(∀p∈l,0<f p)->∃N:Int,0<=N/\∀M,N<=M->∀p∈l,0<M*f p+g p
 |[],_=>⟨0,Qjax _,λ_ _ p hp=>by cases hp⟩
 |a::l,h=>by
  obtain⟨N,h0,h1⟩:=far l λp hp=>h p (List.mem_cons_of_mem _ hp)
  have ha:=h a Qjn;refine⟨max N ((g a).natAbs+1),by omega,λM hM p hp=>?_⟩
  rcases Qjm.1 hp with rfl|hp
  ·have:M*1<=M*f p:=Qjal (by omega) (by omega)
   omega
  ·exact h1 M (by omega) p hp
theorem ae9:∀p∈ws,okp p=true:=Qja.1 (by decide)
theorem ca3{n:V3}(h:n≠⟨0,0,0⟩):0<dot n n:=by
 have k:∀a:Int,0<=a*a/\(a≠0->0<a*a):=λa=>by
  rcases Int.lt_trichotomy a 0 with h|h|h
  ·have:=Qjar h h;exact⟨by omega,λ_=>this⟩
  ·subst h;exact⟨by decide,λh=>absurd rfl h⟩
  ·have:=Qjam h h;exact⟨by omega,λ_=>this⟩
 unfold dot
 have:=k n.x;have:=k n.y;have:=k n.z
 by_cases hx:n.x=0
 ·by_cases hy:n.y=0
  ·by_cases hz:n.z=0
   ·exact absurd (Qjbd hx hy hz) h
   ·have:=(k n.z).2 hz;omega
  ·have:=(k n.y).2 hy;omega
 ·have:=(k n.x).2 hx;omega
theorem ec0{c:List Pln}(h:(chk c==0)=true):∀p∈c++ws,okp p=true:=λp hp=>by
 rw[beq_iff_eq,ic4] at h
 rcases Qjae.1 hp with hp|hp
 ·exact h.2 p hp
 ·exact ae9 p hp
def Fv:V3:=⟨10000,100,1⟩
structure Crs(l:List V3)(p:Pln)(v:V3):Prop where
 h:∃u w,u∈l/\w∈l/\dot p.n u=p.b/\dot p.n w=p.b/\dot Fv w<dot Fv v/\dot Fv v<dot Fv u/\N3 v u w≠⟨0,0,0⟩
 on:dot p.n v=p.b
section
variable{l:List V3}(hl:l.all inV=true)
include hl
theorem Hb1(hs:Sol l){p q:Pln}(hp:wa9 l p)(hq:wa9 l q){u w x:V3}(hu:u∈l)(hw:w∈l)(hx:x∈l)(h3:N3 u w x≠⟨0,0,0⟩)(p1:dot p.n u=p.b)(p2:dot p.n w=p.b)(p3:dot p.n x=p.b)(q1:dot q.n u=q.b)(q2:dot q.n w=q.b)(q3:dot q.n x=q.b):p=q:=by
 have hi:=Qja.1 hl;have hT:=(da7 (va8 (hi u hu) (hi w hw) (hi x hx) h3)).2;have fl:∀{p:Pln},wa9 l p->wa9 l (U3 p)->False:=λ{p} h h'=>by
  obtain⟨v,hv,hne⟩:=hs.off (Qa7 h.ok) p.b;have a:=h.hd v hv;have c:=h'.hd v hv;rw[lb9] at c;have c:-dot p.n v<=-p.b:=c;omega
 rcases mb0 hT hp.ok p1 p2 p3 with e|e<;>rcases mb0 hT hq.ok q1 q2 q3 with e'|e'
 ·rw[e,e']
 ·rw[e',<- e] at hq;exact (fl hp hq).elim
 ·rw[e,<- e'] at hp;exact (fl hq hp).elim
 ·rw[e,e']
end
theorem Pc0{α β:Type}{R:α->β->Prop}{X:List α}{L:List β}(hX:X.Nodup)(h:∀q∈X,∃y∈L,R q y)(hi:∀q∈X,∀r∈X,∀y,R q y->R r y->q=r):X.length<=L.length:=by
 have h':∀q:{ q // q∈X },∃y,y∈L/\R q.1 y:=λq=>by
  obtain⟨y,h1,h2⟩:=h q.1 q.2;exact⟨y,h1,h2⟩
 obtain⟨f,hf⟩:=Classical.axiomOfChoice h';have hn:(X.attach.map f).Nodup:=by
  unfold List.Nodup;rw[List.pairwise_map];have hXa:X.attach.Nodup:=by
   unfold List.Nodup;have h0:(X.attach.map Subtype.val).Nodup:=by rw[List.attach_map_subtype_val];exact hX
   unfold List.Nodup at h0;rw[List.pairwise_map] at h0;exact h0.imp λhne e=>hne (by rw[e])
  refine List.Pairwise.imp (λ{a c} hne e=>hne (Subtype.ext (hi a.1 a.2 c.1 c.2 (f a) (hf a).2 (by rw[e];exact (hf c).2)))) hXa
 have:=List.Nodup.length_le_of_subset hn λy hy=>by
  obtain⟨q,_,rfl⟩:=Qjb.1 hy;exact (hf q).1
 simpa using this
theorem ma5{n N d:V3}(h:a8 n N=⟨0,0,0⟩):dot N N*dot n d=dot n N*dot N d:=by
 have e:dot N N*dot n d-dot n N*dot N d=dot (a8 n N) (a8 d N):=by simp only[dot,a8];grind
 rw[h] at e;have z:dot ⟨0,0,0⟩ (a8 d N)=0:=by simp[dot]
 rw[z] at e;exact Qjbc e
theorem pa1{n a c:V3}(h1:dot n a=0)(h2:dot n c=0):a8 n (a8 a c)=⟨0,0,0⟩:=by
 refine Qjbd ?_ ?_ ?_
 ·have:(a8 n (a8 a c)).x=a.x*dot n c-c.x*dot n a:=by simp only[a8,dot];grind
  rw[this,h1,h2];simp
 ·have:(a8 n (a8 a c)).y=a.y*dot n c-c.y*dot n a:=by simp only[a8,dot];grind
  rw[this,h1,h2];simp
 ·have:(a8 n (a8 a c)).z=a.z*dot n c-c.z*dot n a:=by simp only[a8,dot];grind
  rw[this,h1,h2];simp
theorem G8(n a c:V3):dot n (d7 a c)=dot n a-dot n c:=by simp only[dot,d7];grind
theorem Zb3 {l : List V3} (hl : l.all inV = true) {n u w x : V3} (hu : u ∈ l) (hw : w ∈ l) (hx : x ∈ l) (h3 : N3 u w x ≠ ⟨0, 0, 0⟩) (hle : ∀ v ∈ l, dot n v ≤ dot n u) (e1 : dot n w = dot n u) (e2 : dot n x = dot n u) (hoff : ∃ v ∈ l, dot n v ≠ dot n u) :
  ∃p,wa9 l p/\dot p.n u=p.b/\dot p.n w=p.b/\dot p.n x=p.b:=by
 have hi:=Qja.1 hl;have hT:=(da7 (va8 (hi u hu) (hi w hw) (hi x hx) h3)).2;obtain⟨s1,s2,s3⟩:=jc1 hT;have hT0:=hT;obtain⟨ok,⟨g,hg,g1,g2,g3'⟩,_⟩:=hT;generalize (A8 u w x).1=p at *
 have hN:dot (N3 u w x) (N3 u w x)>0:=ca3 h3;have hpar:a8 n (N3 u w x)=⟨0,0,0⟩:=by
  have a1:dot n (d7 w u)=0:=by rw[G8];omega
  have a2:dot n (d7 x u)=0:=by rw[G8];omega
  exact pa1 a1 a2
 have hd:∀v,dot (N3 u w x) (N3 u w x)*(dot n v-dot n u)=dot n (N3 u w x)*(g*(dot p.n v-p.b)):=λv=>by
  rw[<- G8,ma5 hpar,<- s1];congr 1
  have:g*(dot p.n v-dot p.n u)=(g*p.n.x)*(v.x-u.x)+(g*p.n.y)*(v.y-u.y)+(g*p.n.z)*(v.z-u.z):=by simp only[dot];grind
  rw[this,g1,g2,g3'];simp only[N3,dot,d7,a8,sub]
 rcases Int.lt_trichotomy (dot n (N3 u w x)) 0 with h|h|h
 ·refine⟨U3 p,Gb2 hu hw hx hT0 λv hv=>?_,(ya8 p u).2 s1,(ya8 p w).2 s2,(ya8 p x).2 s3⟩
  rw[lb9];show -dot p.n v<=-p.b;have k1:=hd v;have k2:dot (N3 u w x) (N3 u w x)*(dot n v-dot n u)<=0:=Qju (by omega) (by have:=hle v hv;omega)
  apply Qjc;intro hno
  have:=Qjar h (Qjo hg (show dot p.n v-p.b<0 by omega))
  omega
 ·exfalso;obtain⟨v,hv,hne⟩:=hoff;have k1:=hd v;rw[h,Qjw] at k1
  have:=(Qjq.1 k1).resolve_left (by omega)
  omega
 ·refine⟨p,Yb7 hu hw hx hT0 λv hv=>?_,s1,s2,s3⟩
  have k1:=hd v;have k2:dot (N3 u w x) (N3 u w x)*(dot n v-dot n u)<=0:=Qju (by omega) (by have:=hle v hv;omega)
  apply Qjc;intro hno
  have:=Qjam h (Qjam hg (show 0<dot p.n v-p.b by omega))
  omega
structure Sim(l:List V3)(T:V3->V3):Prop where
 li:l.all inV=true
 mi:(l.map T).all inV=true
 dn:∀n:V3,∃n':V3,∃k:Int,0<k/\∀u∈l,∀w∈l,dot n' (T u)-dot n' (T w)=k*(dot n u-dot n w)
 up:∀n':V3,∃n:V3,∃k:Int,0<k/\∀u∈l,∀w∈l,dot n u-dot n w=k*(dot n' (T u)-dot n' (T w))
 n3:∀u∈l,∀w∈l,∀x∈l,N3 u w x≠⟨0,0,0⟩↔N3 (T u) (T w) (T x)≠⟨0,0,0⟩
theorem Xc5{k x:Int}(hk:0<k)(h:x<=0):k*x<=0:=Qju (by omega) h
theorem fa8{k x:Int}(hk:0<k)(h:k*x=0):x=0:=(Qjq.1 h).resolve_left (by omega)
def Car(l:List V3)(T:V3->V3)(p q:Pln):Prop:=∃u w x,u∈l/\w∈l/\x∈l/\N3 u w x≠⟨0,0,0⟩/\(dot p.n u=p.b/\dot p.n w=p.b/\dot p.n x=p.b)/\dot q.n (T u)=q.b/\dot q.n (T w)=q.b/\dot q.n (T x)=q.b/\(∀v∈l,dot p.n v=p.b↔dot q.n (T v)=q.b)
section
variable{l:List V3}{T:V3->V3}(h:Sim l T)(hs:Sol l)(hs':Sol (l.map T))
include h hs hs'
theorem Sim.mem{v:V3}(hv:v∈l):T v∈l.map T:=Qjb.2 ⟨v,hv,rfl⟩
theorem Sim.down{q:Pln}(hq:q∈F0 (l.map T)):∃p∈F0 l,Car l T p q:=by
 have hf:=(z7 h.mi q).1 hq;obtain⟨u',w',x',hu',hw',hx',h3,t1,t2,t3⟩:=hf.on;obtain⟨u,hu,rfl⟩:=Qjb.1 hu';obtain⟨w,hw,rfl⟩:=Qjb.1 hw';obtain⟨x,hx,rfl⟩:=Qjb.1 hx';obtain⟨n,k,hk,hn⟩:=h.up q.n;have h3':=(h.n3 u hu w hw x hx).2 h3;have hle:∀v∈l,dot n v<=dot n u:=λv hv=>by
  have e:=hn v hv u hu
  have:=Xc5 hk (show dot q.n (T v)-dot q.n (T u)<=0 by have:=hf.hd _ (Sim.mem h hs hs' hv);omega)
  omega
 have e1:dot n w=dot n u:=by
  have e:=hn w hw u hu;rw[t2,t1,Qjr,Qji] at e;omega
 have e2:dot n x=dot n u:=by
  have e:=hn x hx u hu;rw[t3,t1,Qjr,Qji] at e;omega
 have hoff:∃v∈l,dot n v≠dot n u:=by
  obtain⟨v',hv',hne⟩:=hs'.off (Qa7 hf.ok) q.b;obtain⟨v,hv,rfl⟩:=Qjb.1 hv';refine⟨v,hv,λe=>hne ?_⟩
  have e':=hn v hv u hu
  have:=fa8 hk (show k*(dot q.n (T v)-dot q.n (T u))=0 by omega)
  omega
 obtain⟨p,hp,p1,p2,p3⟩:=Zb3 h.li hu hw hx h3' hle e1 e2 hoff;refine⟨p,(z7 h.li p).2 hp,u,w,x,hu,hw,hx,h3',⟨p1,p2,p3⟩,t1,t2,t3,λv hv=>?_⟩
 -- on p if and only if n is highest there
 have hT:=(da7 (va8 (Qja.1 h.li u hu) (Qja.1 h.li w hw) (Qja.1 h.li x hx) h3')).2;have hN:dot (N3 u w x) (N3 u w x)>0:=ca3 h3';have c1:a8 n (N3 u w x)=⟨0,0,0⟩:=pa1 (by rw[G8];omega) (by rw[G8];omega)
 have c2:a8 p.n (N3 u w x)=⟨0,0,0⟩:=pa1 (by rw[G8];omega) (by rw[G8];omega)
 have d1:=ma5 (d:=d7 v u) c1;have d2:=ma5 (d:=d7 v u) c2;rw[G8] at d1 d2;have n1:dot n (N3 u w x)≠0:=λe=>by
  obtain⟨v0,hv0,hne⟩:=hoff;have d0:=ma5 (d:=d7 v0 u) c1;rw[G8,e,Qjw] at d0
  have:=fa8 hN d0
  omega
 have n2:dot p.n (N3 u w x)≠0:=λe=>by
  obtain⟨v0,hv0,hne⟩:=hs.off (Qa7 hp.ok) p.b;have d0:=ma5 (d:=d7 v0 u) c2;rw[G8,e,Qjw] at d0
  have:=fa8 hN d0
  omega
 have e':=hn v hv u hu;constructor
 ·intro hv';rw[show dot p.n v-dot p.n u=0 by omega,Qji] at d2
  have z:=(Qjq.1 d2.symm).resolve_left n2;rw[z,Qji] at d1
  have:=fa8 hN d1
  have:=fa8 hk (show k*(dot q.n (T v)-dot q.n (T u))=0 by omega)
  omega
 ·intro hv';rw[hv',t1,Qjr,Qji] at e';rw[e',Qji] at d1;have z:=(Qjq.1 d1.symm).resolve_left n1;rw[z,Qji] at d2
  have:=fa8 hN d2
  omega
theorem Sim.img{p p':Pln}(hp:p∈F0 l)(ok:okp p'=true)(hd:∀v∈l,dot p'.n (T v)<=p'.b)(on:∀v∈l,dot p.n v=p.b->dot p'.n (T v)=p'.b):p'∈F0 (l.map T):=by
 have hf:=(z7 h.li p).1 hp;obtain⟨u,w,x,hu,hw,hx,h3,t1,t2,t3⟩:=hf.on;refine (z7 h.mi p').2 ⟨⟨λv' hv'=>?_,T u,T w,T x,Sim.mem h hs hs' hu,Sim.mem h hs hs' hw,Sim.mem h hs hs' hx,(h.n3 u hu w hw x hx).1 h3,on u hu t1,on w hw t2,on x hx t3⟩,ok⟩
 obtain⟨v,hv,rfl⟩:=Qjb.1 hv';exact hd v hv
theorem Sim.upf{p:Pln}(hp:p∈F0 l):∃q∈F0 (l.map T),Car l T p q:=by
 have hf:=(z7 h.li p).1 hp;obtain⟨u,w,x,hu,hw,hx,h3,t1,t2,t3⟩:=hf.on;obtain⟨n,k,hk,hn⟩:=h.dn p.n;have h3':=(h.n3 u hu w hw x hx).1 h3;obtain⟨q,hq,q1,q2,q3⟩:=Zb3 (n:=n) h.mi (Sim.mem h hs hs' hu) (Sim.mem h hs hs' hw) (Sim.mem h hs hs' hx) h3' (λv' hv'=>by
  obtain⟨v,hv,rfl⟩:=Qjb.1 hv';have e:=hn v hv u hu
  have:=Xc5 hk (show dot p.n v-dot p.n u<=0 by have:=hf.hd v hv;omega)
  omega) (by
  have e:=hn w hw u hu;rw[t2,t1,Qjr,Qji] at e
  omega) (by
  have e:=hn x hx u hu;rw[t3,t1,Qjr,Qji] at e
  omega) (by
  obtain⟨v,hv,hne⟩:=hs.off (Qa7 hf.ok) p.b;refine⟨T v,Sim.mem h hs hs' hv,λe=>hne ?_⟩
  have e':=hn v hv u hu
  have:=fa8 hk (show k*(dot p.n v-dot p.n u)=0 by omega)
  omega)
 obtain⟨p2,hp2,u',w',x',hu',hw',hx',h3'',on2,r1,r2,r3,hall⟩:=Sim.down h hs hs' ((z7 h.mi q).2 hq);have e:p2=p:=Hb1 h.li hs ((z7 h.li p2).1 hp2) hf hu hw hx h3 ((hall u hu).2 q1) ((hall w hw).2 q2) ((hall x hx).2 q3) t1 t2 t3;subst e;exact⟨q,(z7 h.mi q).2 hq,u',w',x',hu',hw',hx',h3'',on2,r1,r2,r3,hall⟩
theorem Sim.len:(F0 (l.map T)).length=(F0 l).length:=by
 refine Nat.le_antisymm ?_ ?_
 ·refine Pc0 (R:=λq p=>Car l T p q) (Nb8 (Nb7 _)) (λq hq=>Sim.down h hs hs' hq) λq hq r hr p h1 h2=>?_
  obtain⟨u,w,x,hu,hw,hx,h3,⟨p1,p2,p3⟩,q1,q2,q3,_⟩:=h1;obtain⟨_,_,_,_,_,_,_,_,_,_,_,hall⟩:=h2;exact Hb1 h.mi hs' ((z7 h.mi q).1 hq) ((z7 h.mi r).1 hr) (Sim.mem h hs hs' hu) (Sim.mem h hs hs' hw) (Sim.mem h hs hs' hx) ((h.n3 u hu w hw x hx).1 h3) q1 q2 q3 ((hall u hu).1 p1) ((hall w hw).1 p2) ((hall x hx).1 p3)
 ·refine Pc0 (R:=λp q=>Car l T p q) (Nb8 (Nb7 _)) (λp hp=>Sim.upf h hs hs' hp) λp hp r hr q h1 h2=>?_
  obtain⟨u,w,x,hu,hw,hx,h3,⟨p1,p2,p3⟩,q1,q2,q3,_⟩:=h1;obtain⟨_,_,_,_,_,_,_,_,_,_,_,hall⟩:=h2;exact Hb1 h.li hs ((z7 h.li p).1 hp) ((z7 h.li r).1 hr) hu hw hx h3 p1 p2 p3 ((hall u hu).2 q1) ((hall w hw).2 q2) ((hall x hx).2 q3)
end
set_option maxRecDepth 100000
structure Sd2 where
 j7:List V3
 (e8 e7 g8:Int)
structure Sd3 where
 is5:Int
structure Ad0 where
 V2:List Pln
 (e8 e7 g8:Int)
structure Ad1 where
 ph:Nat
 is6:Int
 ns5:Nat
 eh1:List (List a7)
structure Ad2 where
 ns5:Nat
 (is7 is8:Int)
 eh0:List (List a7)
structure Ad3 where
 ph:Nat
 is9:Int
structure Ad4 where
 is7:Int
structure Ad5 where
 (ph ns5:Nat)
 is8:Int
 eh0:List (List a7)
structure Ad6 where
structure Ad7 where
 ph:Nat
 is7:Int
 ns5:Nat
 eh0:List (List a7)
structure od3 where
 j7:List V3
 oe1:List Pln
structure od4 where
 ph:Nat
 is7:Int
 oe2:List V3
structure Sd4 where
 j7:List V3
structure Sd5 where
 (is7 ma7 ma8 ma9 qa7 qa8 qa9:Int)
theorem ne8(O:List V3)(v:V3):app (bL tV O) [[i v.x,i v.y,i v.z]]=bL tV (O++[v]):=Ra9 tV O [v]
def rch(n e:V3):Int:=(n.x.natAbs:Int)*e.x+(n.y.natAbs:Int)*e.y+(n.z.natAbs:Int)*e.z
def pq(e:V3)(s:Int)(p:Pln):Pln:=⟨p.n,p.b+s*rch p.n e⟩
def okq(e:V3)(s:Int)(p:Pln):Bool:=okp p&&smb 2097152 (p.b+s*rch p.n e)
structure B12(e:V3):Prop where
 x1:0<=e.x
 x2:e.x<=12
 y1:0<=e.y
 y2:e.y<=12
 z1:0<=e.z
 z2:e.z<=12
section
variable(c:List Pln)(e:V3)(s:Int)
structure PI(j:Nat)(o:List Pln):Prop where
 le:j<=c.length
 o:o=(c.take j).map (pq e s)
 a:(c.take j).all (okq e s)=true
end
section
variable(c:List Pln)(e:V3)(hc:c.length<=1000000)
include hc
end
theorem mb2:∀(l r:List V3),l.Pairwise LtV->r.Pairwise LtV->(∀v,v∈l↔v∈r)->l=r
 |[],[],_,_,_=>rfl
 |[],y::r,_,_,h=>absurd ((h y).2 (Qjn ..)) (by simp)
 |x::l,[],_,_,h=>absurd ((h x).1 (Qjn ..)) (by simp)
 |x::l,y::r,h1,h2,h=>by
  obtain⟨a1,a2⟩:=Qjy.1 h1;obtain⟨b1,b2⟩:=Qjy.1 h2;have e:x=y:=by
   rcases Qjm.1 ((h x).1 (Qjn ..)) with e|hx
   ·exact e
   ·rcases Qjm.1 ((h y).2 (Qjn ..)) with e|hy
    ·exact e.symm
    ·exact absurd (Ob1 (b1 x hx) (a1 y hy)) (Gb3 y)
  subst e
  have:l=r:=mb2 l r a2 b2 λv=>by
   have hv:=h v;simp only[Qjm] at hv;constructor
   ·intro hm
    rcases hv.1 (.inr hm) with e|h'
    ·subst e;exact absurd (a1 v hm) (Gb3 v)
    ·exact h'
   ·intro hm
    rcases hv.2 (.inr hm) with e|h'
    ·subst e;exact absurd (b1 v hm) (Gb3 v)
    ·exact h'
  rw[this]
noncomputable def nrm(F:List Pln)(v:V3):List V3:=(own F v).map λp=>p.n
def N46(n:V3):Prop:=Sm 4608 n.x/\Sm 4608 n.y/\Sm 4608 n.z
section
variable(N:List V3)(hN:∀n∈N,N46 n)(hl:N.length<=1000000)
include hN hl
end
theorem Od3{l:List V3}(hl:l.all inV=true):∀p∈ws,∀v∈l,dot p.n v<=p.b:=λp hp v hv=>by
 have:=Zd5 (Qja.1 hl v hv) p hp
 simp only[rmZ,ipt,dot] at this ⊢;omega
section
variable{l:List V3}(hl:l.all inV=true)(h4:Sol l)
include hl
theorem Dc5(v:V3):v∈ha1 (F0 l) l↔v∈l/\Spn (F0 l) v:=by
 unfold ha1;rw[Qjk,pb4];exact⟨λh=>⟨h.1,(zd6 hl h.1).1 h.2⟩,λh=>⟨h.1,(zd6 hl h.1).2 h.2⟩⟩
include h4
theorem cb6{n:V3}{b:Int}(hv:∀v∈ha1 (F0 l) l,dot n v<=b):∀x∈l,dot n x<=b:=by
 have hfacs:=dd1 hl λp hp=>(z7 hl p).2 hp
 have hall:∀p∈F0 l++ws,∀v∈l,dot p.n v<=p.b:=λp hp=>by
  rcases Qjae.1 hp with hp|hp
  ·exact ((z7 hl p).1 hp).hd
  ·exact Od3 hl p hp
 intro x hx;have hz:∀(a:Pln) (v:V3),rmZ a ⟨v.x,v.y,v.z,1⟩=a.b-dot a.n v:=λa v=>by simp only[rmZ,dot];omega
 have hI:Inr (F0 l++ws) ⟨x.x,x.y,x.z,1⟩:=⟨by show (0:Int)<1;omega,λp hp=>by rw[hz];have:=hall p hp x hx;omega⟩
 have key:=fa4 (xd4 (F0 l)) (h:=⟨n,b⟩) (λy hy=>by
  obtain⟨v,hvl,he,hs⟩:=Md0 h4 hfacs hall hy;have h1:=hv v ((Dc5 hl v).2 ⟨hvl,hs⟩);have h2:=he.rm ⟨n,b⟩;rw[hz] at h2;have hw:=hy.w;have h3:0<=(b-dot n v)*y.pw:=Int.mul_nonneg (by omega) (by omega)
  have h4:rmZ ⟨n,b⟩ y*1=(b-dot n v)*y.pw:=h2
  omega) hI
 rw[hz] at key;have key:0<=b-dot n x:=key;omega
theorem qa6{v:V3}(hv:v∈ha1 (F0 l) l):v∈l:=((Dc5 hl v).1 hv).1
theorem be0:∃v,v∈ha1 (F0 l) l:=by
 apply Qjc;intro hno;obtain⟨x,hx⟩:=h4.ne
 have:=cb6 hl h4 (n:=⟨0,0,0⟩) (b:=-1) (λv hv=>absurd ⟨v,hv⟩ hno) x hx
 simp[dot] at this
theorem Od4:Sol (ha1 (F0 l) l):=by
 obtain⟨a,ha⟩:=be0 hl h4
 rcases Yb6 ((ha1 (F0 l) l).map λv=>d7 v a) with⟨x,y,z,hx,hy,hz,hw⟩|⟨d,hd,h⟩
 ·obtain⟨u,hu,rfl⟩:=Qjb.1 hx;obtain⟨v,hv,rfl⟩:=Qjb.1 hy;obtain⟨w,hw',rfl⟩:=Qjb.1 hz;exact⟨a,v,w,u,ha,hv,hw',hu,λe=>hw (by rw[<- e];simp only[dot,a8,N3];grind)⟩
 ·exfalso;have e:∀v∈ha1 (F0 l) l,dot d v=dot d a:=λv hv=>by
   have:=h _ (Qjb.2 ⟨v,hv,rfl⟩)
   simp only[dot,d7] at this ⊢
   grind
  obtain⟨v,hv,hne⟩:=h4.off hd (dot d a);have h1:=cb6 hl h4 (n:=d) (b:=dot d a) (λw hw=>by rw[e w hw];exact Qjax _) v hv
  have h2:=cb6 hl h4 (n:=neg d) (b:=-dot d a) (λw hw=>by
   have:=e w hw
   have h3:dot (neg d) w=-dot d w:=by simp only[dot,neg];grind
   omega) v hv
  have h3:dot (neg d) v=-dot d v:=by simp only[dot,neg];grind
  omega
theorem ed1:(ha1 (F0 l) l).all inV=true:=Qja.2 λv hv=>Qja.1 hl v (qa6 hl h4 hv)
theorem Hb2{p:Pln}(hp:wa9 l p):wa9 (ha1 (F0 l) l) p:=by
 refine⟨⟨λv hv=>hp.hd v (qa6 hl h4 hv),?_⟩,hp.ok⟩
 obtain⟨u,w,x,hu,hw,hx,h3,t1,t2,t3⟩:=hp.on
 -- a Wc2 on the plane
 obtain⟨a,ha,ta⟩:∃a∈ha1 (F0 l) l,dot p.n a=p.b:=by
  apply Qjc;intro hno
  have:=cb6 hl h4 (n:=p.n) (b:=p.b-1) (λv hv=>by
   have h1:=hp.hd v (qa6 hl h4 hv);have h2:dot p.n v≠p.b:=λe=>hno ⟨v,hv,e⟩
   omega) u hu
  omega
 rcases Yb6 (p.n::(((ha1 (F0 l) l).filter λv=>dot p.n v==p.b).map λv=>d7 v a)) with⟨n1,n2,n3,k1,k2,k3,hne⟩|⟨d,hd,hz⟩
 ·have on : ∀ {n}, n ∈ p.n :: (((ha1 (F0 l) l).filter fun v => dot p.n v == p.b).map fun v => d7 v a) → n = p.n ∨ ∃ v ∈ ha1 (F0 l) l, dot p.n v = p.b ∧ n = d7 v a := fun {n} hn => by
   rcases Qjm.1 hn with e|hn
   ·exact .inl e
   ·obtain⟨v,hv,rfl⟩:=Qjb.1 hn;obtain⟨h1,h2⟩:=Qjk.1 hv;exact .inr ⟨v,h1,beq_iff_eq.1 h2,rfl⟩
  have fin:∀{v1 v2:V3},v1∈ha1 (F0 l) l->v2∈ha1 (F0 l) l->dot p.n v1=p.b->dot p.n v2=p.b->dot p.n (a8 (d7 v1 a) (d7 v2 a))≠0->∃u w x,u∈ha1 (F0 l) l/\w∈ha1 (F0 l) l/\x∈ha1 (F0 l) l/\N3 u w x≠⟨0,0,0⟩/\dot p.n u=p.b/\dot p.n w=p.b/\dot p.n x=p.b:=λ{v1 v2} hv1 hv2 e1 e2 h=>⟨a,v1,v2,ha,hv1,hv2,uc5 h,ta,e1,e2⟩
  rcases on k1 with rfl|⟨v1,m1,e1,rfl⟩<;>rcases on k2 with rfl|⟨v2,m2,e2,rfl⟩<;>rcases on k3 with rfl|⟨v3,m3,e3,rfl⟩
  ·exact absurd (by simp only[dot,a8];grind) hne
  ·exact absurd (by simp only[dot,a8];grind) hne
  ·exact absurd (by simp only[dot,a8];grind) hne
  ·exact fin m2 m3 e2 e3 hne
  ·exact absurd (by simp only[dot,a8];grind) hne
  ·exact fin m3 m1 e3 e1 λe=>hne (by rw[<- e];simp only[dot,a8];grind)
  ·exact fin m1 m2 e1 e2 λe=>hne (by rw[<- e];simp only[dot,a8];grind)
  ·exfalso;have q:∀v:V3,dot p.n v=p.b->dot p.n (d7 v a)=0:=λv e=>by
    have:dot p.n (d7 v a)=dot p.n v-dot p.n a:=by simp only[dot,d7];grind
    omega
   have r1:=q v1 e1;have r2:=q v2 e2;have r3:=q v3 e3;have hw:mw ⟨d7 v1 a,0⟩ ⟨d7 v2 a,0⟩ ⟨d7 v3 a,0⟩≠0:=hne;refine Qa7 hp.ok (Na5 hw ?_ ?_ ?_)
   ·rw[<- r1];simp only[dot];grind
   ·rw[<- r2];simp only[dot];grind
   ·rw[<- r3];simp only[dot];grind
 ·exfalso;have hdn:dot p.n d=0:=hz _ Qjn;have hdv:∀v∈ha1 (F0 l) l,dot p.n v=p.b->dot d v=dot d a:=λv hv e=>by
   have:=hz _ (List.mem_cons_of_mem _ (Qjb.2 ⟨v,Qjk.2 ⟨hv,beq_iff_eq.2 e⟩,rfl⟩))
   simp only[dot,d7] at this ⊢
   grind
  -- one of the db2 points is off the line
  have hoff:¬ (dot d u=dot d a/\dot d w=dot d a/\dot d x=dot d a):=λ⟨g1,g2,g3⟩=>by
   have ht:=(da7 (va8 (Qja.1 hl u hu) (Qja.1 hl w hw) (Qja.1 hl x hx) h3)).2;have hm:mw p ⟨d7 w u,0⟩ ⟨d7 x u,0⟩≠0:=by
    have hN:mw p ⟨d7 w u,0⟩ ⟨d7 x u,0⟩=dot p.n (N3 u w x):=rfl;rw[hN];intro e;obtain⟨_,⟨g,hg,f1,f2,f3⟩,_⟩:=ht;have f1:g*(A8 u w x).1.n.x=(N3 u w x).x:=f1;have f2:g*(A8 u w x).1.n.y=(N3 u w x).y:=f2;have f3:g*(A8 u w x).1.n.z=(N3 u w x).z:=f3;have e2:g*dot p.n (A8 u w x).1.n=0:=by rw[<- e];simp only[dot];rw[<- f1,<- f2,<- f3];grind
    have e3:=(Qjq.1 e2).resolve_left (by omega)
    have hpn:=Qa7 hp.ok;have hpos:=dd0 hpn
    rcases mb0 ((da7 (va8 (Qja.1 hl u hu) (Qja.1 hl w hw) (Qja.1 hl x hx) h3)).2) hp.ok t1 t2 t3 with hq|hq
    ·rw[<- hq] at e3;omega
    ·have : dot p.n (A8 u w x).1.n = -dot p.n p.n := by
      have h5:p.n=⟨-(A8 u w x).1.n.x,-(A8 u w x).1.n.y,-(A8 u w x).1.n.z⟩:=congrArg Pln.n hq;have h6:(A8 u w x).1.n=⟨-p.n.x,-p.n.y,-p.n.z⟩:=by
       rw[h5];simp
      rw[h6];simp only[dot]
      grind
     omega
   refine hd (Na5 hm hdn ?_ ?_)
   ·show dot (d7 w u) d=0
    have:dot (d7 w u) d=dot d w-dot d u:=by simp only[dot,d7];grind
    omega
   ·show dot (d7 x u) d=0
    have:dot (d7 x u) d=dot d x-dot d u:=by simp only[dot,d7];grind
    omega
  -- so a plane that is turned a little would he7 it out
  have main:∀(e:V3) (t:V3),t∈l->dot p.n t=p.b->(∀v∈ha1 (F0 l) l,dot p.n v=p.b->dot e v=dot e a)->dot e t<=dot e a:=λe t ht hte hev=>by
   obtain⟨N,hN,hbig⟩:=big e ((ha1 (F0 l) l).map λv=>⟨d7 v a,0⟩)
   have:=cb6 hl h4 (n:=⟨e.x+N*p.n.x,e.y+N*p.n.y,e.z+N*p.n.z⟩) (b:=dot e a+N*p.b) (λv hv=>by
    have h1:dot ⟨e.x+N*p.n.x,e.y+N*p.n.y,e.z+N*p.n.z⟩ v=dot e v+N*dot p.n v:=by simp only[dot];grind
    rw[h1];by_cases hvp:dot p.n v=p.b
    ·rw[hvp,hev v hv hvp];exact Qjax _
    ·have h2:=hp.hd v (qa6 hl h4 hv);have h3:=(hbig _ (Qjb.2 ⟨v,hv,rfl⟩)).1;have h4:dot (d7 v a) e=dot e v-dot e a:=by simp only[dot,d7];grind
     have h3:dot (d7 v a) e<=N:=h3;have h5:N*dot p.n v<=N*(p.b-1):=Qjal (by omega) (by omega)
     rw[Int.mul_sub,Int.mul_one] at h5
     omega) t ht
   have h1:dot ⟨e.x+N*p.n.x,e.y+N*p.n.y,e.z+N*p.n.z⟩ t=dot e t+N*dot p.n t:=by simp only[dot];grind
   rw[h1,hte] at this;omega
  have both:∀t,t∈l->dot p.n t=p.b->dot d t=dot d a:=λt ht hte=>by
   have g1:=main d t ht hte hdv;have g2:=main (neg d) t ht hte (λv hv e=>by
    have:=hdv v hv e
    have q1:∀z:V3,dot (neg d) z=-dot d z:=λz=>by simp only[dot,neg];grind
    rw[q1,q1];omega)
   have q1:∀z:V3,dot (neg d) z=-dot d z:=λz=>by simp only[dot,neg];grind
   rw[q1,q1] at g2;omega
  exact hoff ⟨both u hu t1,both w hw t2,both x hx t3⟩
theorem be1:F0 (ha1 (F0 l) l)=F0 l:=by
 refine Nb5 (Nb7 _) (Nb7 _) λp=>?_
 rw[z7 (ed1 hl h4),z7 hl];refine⟨λh=>⟨⟨cb6 hl h4 h.hd,?_⟩,h.ok⟩,λh=>Hb2 hl h4 h⟩
 obtain⟨u,w,x,hu,hw,hx,hr⟩:=h.on;exact⟨u,w,x,qa6 hl h4 hu,qa6 hl h4 hw,qa6 hl h4 hx,hr⟩
end
theorem Hb3{l:List V3}(hl:l.all inV=true)(h4:Sol l){v:V3}(hv:v∈l):v∈ha1 (F0 l) l↔∃n,∀w∈l,w≠v->dot n w<dot n v:=by
 constructor
 ·intro h;obtain⟨p,q,s,hp,hq,hs,hm,e1,e2,e3⟩:=((Dc5 hl v).1 h).2;refine⟨⟨p.n.x+q.n.x+s.n.x,p.n.y+q.n.y+s.n.y,p.n.z+q.n.z+s.n.z⟩,λw hw hne=>?_⟩
  have hd:∀x:V3,dot ⟨p.n.x+q.n.x+s.n.x,p.n.y+q.n.y+s.n.y,p.n.z+q.n.z+s.n.z⟩ x=dot p.n x+dot q.n x+dot s.n x:=λx=>by simp only[dot];grind
  rw[hd,hd];have g1:=((z7 hl p).1 hp).hd w hw;have g2:=((z7 hl q).1 hq).hd w hw;have g3:=((z7 hl s).1 hs).hd w hw;apply Qjc;intro hno;have z:=Na5 hm (d:=d7 w v) (by rw[G8];omega) (by rw[G8];omega) (by rw[G8];omega)
  simp only[d7,V3.mk.injEq] at z;exact hne (Qjbd (by omega) (by omega) (by omega))
 ·rintro⟨n,hn⟩;apply Qjc;intro hno
  have:=cb6 hl h4 (n:=n) (b:=dot n v-1) (λw hw=>by
   have:=hn w (qa6 hl h4 hw) λe=>hno (e ▸ hw)
   omega) v hv
  omega
section
variable{l:List V3}{T:V3->V3}(h:Sim l T)
include h
theorem Sim.inj{u w:V3}(hu:u∈l)(hw:w∈l)(e:T u=T w):u=w:=by
 have key:∀n:V3,dot n u=dot n w:=λn=>by
  obtain⟨n',k,hk,hn⟩:=h.dn n;have e':=hn u hu w hw;rw[e,Qjr] at e'
  have:=fa8 hk e'.symm
  omega
 have k1:=key ⟨1,0,0⟩;have k2:=key ⟨0,1,0⟩;have k3:=key ⟨0,0,1⟩;simp only[dot] at k1 k2 k3;exact Qjbd (by omega) (by omega) (by omega)
theorem Ad8{u w x v n:V3}(h3:N3 u w x≠⟨0,0,0⟩)(e1:dot n w=dot n u)(e2:dot n x=dot n u)(hv:dot n v≠dot n u):dot (N3 u w x) (d7 v u)≠0:=λe=>by
 have hN:dot (N3 u w x) (N3 u w x)>0:=ca3 h3;have c1:a8 n (N3 u w x)=⟨0,0,0⟩:=pa1 (by rw[G8];omega) (by rw[G8];omega)
 have d1:=ma5 (d:=d7 v u) c1;rw[e,Qji,G8] at d1
 have:=fa8 hN d1
 omega
omit h in
theorem Dc6(u w x:V3):dot (N3 u w x) w=dot (N3 u w x) u/\dot (N3 u w x) x=dot (N3 u w x) u:=by
 constructor<;>simp only[N3,dot,a8,d7]<;>grind
theorem Sim.sol:Sol l↔Sol (l.map T):=by
 constructor
 ·rintro⟨a,c,k,v,ha,hc,hk,hv,hne⟩;have h3:N3 a c k≠⟨0,0,0⟩:=λe=>hne (by rw[e];simp[dot])
  obtain⟨n',m,hm,hn⟩:=h.dn (N3 a c k);obtain⟨p1,p2⟩:=Dc6 a c k;refine⟨T a,T c,T k,T v,Qjb.2 ⟨a,ha,rfl⟩,Qjb.2 ⟨c,hc,rfl⟩,Qjb.2 ⟨k,hk,rfl⟩,Qjb.2 ⟨v,hv,rfl⟩,Ad8 h (n:=n') ((h.n3 a ha c hc k hk).1 h3) ?_ ?_ ?_⟩
  ·have e:=hn c hc a ha;rw[p1,Qjr,Qji] at e;omega
  ·have e:=hn k hk a ha;rw[p2,Qjr,Qji] at e;omega
  ·intro e';have e:=hn v hv a ha
   have:=fa8 hm (show m*(dot (N3 a c k) v-dot (N3 a c k) a)=0 by omega)
   rw[G8] at hne;omega
 ·rintro⟨a',c',k',v',ha',hc',hk',hv',hne⟩;obtain⟨a,ha,rfl⟩:=Qjb.1 ha';obtain⟨c,hc,rfl⟩:=Qjb.1 hc';obtain⟨k,hk,rfl⟩:=Qjb.1 hk';obtain⟨v,hv,rfl⟩:=Qjb.1 hv';have h3:N3 (T a) (T c) (T k)≠⟨0,0,0⟩:=λe=>hne (by rw[e];simp[dot])
  obtain⟨n,m,hm,hn⟩:=h.up (N3 (T a) (T c) (T k));obtain⟨p1,p2⟩:=Dc6 (T a) (T c) (T k);refine⟨a,c,k,v,ha,hc,hk,hv,Ad8 h (n:=n) ((h.n3 a ha c hc k hk).2 h3) ?_ ?_ ?_⟩
  ·have e:=hn c hc a ha;rw[p1,Qjr,Qji] at e;omega
  ·have e:=hn k hk a ha;rw[p2,Qjr,Qji] at e;omega
  ·intro e';have e:=hn v hv a ha
   have:=fa8 hm (show m*(dot (N3 (T a) (T c) (T k)) (T v)-dot (N3 (T a) (T c) (T k)) (T a))=0 by omega)
   rw[G8] at hne;omega
theorem Sim.ext(hs:Sol l){v:V3}(hv:v∈l):v∈ha1 (F0 l) l↔T v∈ha1 (F0 (l.map T)) (l.map T):=by
 rw[Hb3 h.li hs hv,Hb3 h.mi ((Sim.sol h).1 hs) (Qjb.2 ⟨v,hv,rfl⟩)];constructor
 ·rintro⟨n,hn⟩;obtain⟨n',k,hk,hd⟩:=h.dn n;refine⟨n',λw' hw' hne=>?_⟩
  obtain⟨w,hw,rfl⟩:=Qjb.1 hw';have e:=hd w hw v hv
  have:=Qjo hk (show dot n w-dot n v<0 by have:=hn w hw λe=>hne (by rw[e]);omega)
  omega
 ·rintro⟨n',hn⟩;obtain⟨n,k,hk,hd⟩:=h.up n';refine⟨n,λw hw hne=>?_⟩
  have e:=hd w hw v hv
  have:=Qjo hk (show dot n' (T w)-dot n' (T v)<0 by have:=hn (T w) (Qjb.2 ⟨w,hw,rfl⟩) λe=>hne (Sim.inj h hw hv e);omega)
  omega
end
structure Mat(l:List V3)(T:V3->V3)(r0 r1 r2:V3)(D:Int):Prop where
 d:0<D
 det:0<dot r0 (a8 r1 r2)
 t:∀u∈l,∀w∈l,D*((T u).x-(T w).x)=dot r0 (d7 u w)/\D*((T u).y-(T w).y)=dot r1 (d7 u w)/\D*((T u).z-(T w).z)=dot r2 (d7 u w)
theorem Ad9(r0 r1 r2 n d:V3):dot ⟨dot n (a8 r1 r2),dot n (a8 r2 r0),dot n (a8 r0 r1)⟩ ⟨dot r0 d,dot r1 d,dot r2 d⟩=dot r0 (a8 r1 r2)*dot n d:=by simp only[dot,a8];grind
theorem Xc6(r0 r1 r2 a c:V3):a8 ⟨dot r0 a,dot r1 a,dot r2 a⟩ ⟨dot r0 c,dot r1 c,dot r2 c⟩=⟨dot (a8 r1 r2) (a8 a c),dot (a8 r2 r0) (a8 a c),dot (a8 r0 r1) (a8 a c)⟩:=by
 refine Qjbd ?_ ?_ ?_<;>simp only[dot,a8]<;>grind
theorem nd3(r0 r1 r2 v:V3):(dot r0 (a8 r1 r2)*v.x=dot (a8 r1 r2) v*r0.x+dot (a8 r2 r0) v*r1.x+dot (a8 r0 r1) v*r2.x)/\(dot r0 (a8 r1 r2)*v.y=dot (a8 r1 r2) v*r0.y+dot (a8 r2 r0) v*r1.y+dot (a8 r0 r1) v*r2.y)/\(dot r0 (a8 r1 r2)*v.z=dot (a8 r1 r2) v*r0.z+dot (a8 r2 r0) v*r1.z+dot (a8 r0 r1) v*r2.z):=by
 refine⟨?_,?_,?_⟩<;>simp only[dot,a8]<;>grind
theorem Y8{k x:Int}(hk:0<k)(h:k*x=0):x=0:=(Qjq.1 h).resolve_left (by omega)
theorem Od5{l:List V3}{T:V3->V3}{r0 r1 r2:V3}{D:Int}(h:Mat l T r0 r1 r2 D)(hl:l.all inV=true)(hm:(l.map T).all inV=true):Sim l T:=by
 refine⟨hl,hm,λn=>⟨⟨D*dot n (a8 r1 r2),D*dot n (a8 r2 r0),D*dot n (a8 r0 r1)⟩,dot r0 (a8 r1 r2),h.det,λu hu w hw=>?_⟩,λn'=>⟨⟨n'.x*r0.x+n'.y*r1.x+n'.z*r2.x,n'.x*r0.y+n'.y*r1.y+n'.z*r2.y,n'.x*r0.z+n'.y*r1.z+n'.z*r2.z⟩,D,h.d,λu hu w hw=>?_⟩,λu hu w hw x hx=>?_⟩
 ·obtain⟨t1,t2,t3⟩:=h.t u hu w hw;have e:=Ad9 r0 r1 r2 n (d7 u w);rw[<- t1,<- t2,<- t3,G8 n u w] at e;rw[<- e];generalize dot n (a8 r1 r2)=A;generalize dot n (a8 r2 r0)=B;generalize dot n (a8 r0 r1)=C;simp only[dot]
  grind
 ·obtain⟨t1,t2,t3⟩:=h.t u hu w hw;have e:dot ⟨n'.x*r0.x+n'.y*r1.x+n'.z*r2.x,n'.x*r0.y+n'.y*r1.y+n'.z*r2.y,n'.x*r0.z+n'.y*r1.z+n'.z*r2.z⟩ u-dot ⟨n'.x*r0.x+n'.y*r1.x+n'.z*r2.x,n'.x*r0.y+n'.y*r1.y+n'.z*r2.y,n'.x*r0.z+n'.y*r1.z+n'.z*r2.z⟩ w=n'.x*dot r0 (d7 u w)+n'.y*dot r1 (d7 u w)+n'.z*dot r2 (d7 u w):=by simp only[dot,d7];grind
  rw[e,<- t1,<- t2,<- t3];simp only[dot]
  grind
 ·obtain⟨t1,t2,t3⟩:=h.t w hw u hu;obtain⟨s1,s2,s3⟩:=h.t x hx u hu;have e:=Xc6 r0 r1 r2 (d7 w u) (d7 x u);rw[<- t1,<- t2,<- t3,<- s1,<- s2,<- s3] at e;have eN:a8 (d7 w u) (d7 x u)=N3 u w x:=rfl;rw[eN] at e;have eT:a8 ⟨D*((T w).x-(T u).x),D*((T w).y-(T u).y),D*((T w).z-(T u).z)⟩ ⟨D*((T x).x-(T u).x),D*((T x).y-(T u).y),D*((T x).z-(T u).z)⟩=⟨D*(D*(N3 (T u) (T w) (T x)).x),D*(D*(N3 (T u) (T w) (T x)).y),D*(D*(N3 (T u) (T w) (T x)).z)⟩:=by
   refine Qjbd ?_ ?_ ?_<;>simp only[N3,a8,d7]<;>grind
  rw[eT] at e;simp only[V3.mk.injEq] at e;obtain⟨e1,e2,e3⟩:=e;obtain⟨b1,b2,b3⟩:=nd3 r0 r1 r2 (N3 u w x);have hd:=h.d;have hdet:=h.det;constructor
  ·intro hne h0;rw[h0] at e1 e2 e3;simp only[Qji] at e1 e2 e3;rw[<- e1,<- e2,<- e3] at b1 b2 b3;simp only[Qjw,Qjat] at b1 b2 b3;exact hne (Qjbd (Y8 hdet b1) (Y8 hdet b2) (Y8 hdet b3))
  ·intro hne h0;rw[h0] at e1 e2 e3;have z:∀v:V3,dot v ⟨0,0,0⟩=0:=λv=>by simp[dot]
   rw[z] at e1 e2 e3;exact hne (Qjbd (Y8 hd (Y8 hd e1)) (Y8 hd (Y8 hd e2)) (Y8 hd (Y8 hd e3)))
theorem Bd0 {r0 r1 r2 : V3} {D : Int} (h00 : dot r0 r0 = D * D) (h11 : dot r1 r1 = D * D) (h22 : dot r2 r2 = D * D) (h01 : dot r0 r1 = 0) (h02 : dot r0 r2 = 0) (h12 : dot r1 r2 = 0) (hdet : dot r0 (a8 r1 r2) ≠ 0) (d : V3) :
  dot r0 d*dot r0 d+dot r1 d*dot r1 d+dot r2 d*dot r2 d=D*D*dot d d:=by
 have key:(⟨D*D*d.x-(dot r0 d*r0.x+dot r1 d*r1.x+dot r2 d*r2.x),D*D*d.y-(dot r0 d*r0.y+dot r1 d*r1.y+dot r2 d*r2.y),D*D*d.z-(dot r0 d*r0.z+dot r1 d*r1.z+dot r2 d*r2.z)⟩:V3)=⟨0,0,0⟩:=by
  have ex:∀r:V3,dot r ⟨D*D*d.x-(dot r0 d*r0.x+dot r1 d*r1.x+dot r2 d*r2.x),D*D*d.y-(dot r0 d*r0.y+dot r1 d*r1.y+dot r2 d*r2.y),D*D*d.z-(dot r0 d*r0.z+dot r1 d*r1.z+dot r2 d*r2.z)⟩=D*D*dot r d-(dot r0 d*dot r r0+dot r1 d*dot r r1+dot r2 d*dot r r2):=λr=>by
   generalize dot r0 d=A;generalize dot r1 d=B;generalize dot r2 d=C;simp only[dot]
   grind
  have cm:∀a c:V3,dot a c=dot c a:=λa c=>by simp only[dot];grind
  refine Na5 (p:=⟨r0,0⟩) (q:=⟨r1,0⟩) (s:=⟨r2,0⟩) hdet ?_ ?_ ?_
  ·rw[ex,h00,h01,h02];grind
  ·rw[ex,cm r1 r0,h01,h11,h12];grind
  ·rw[ex,cm r2 r0,cm r2 r1,h02,h12,h22];grind
 simp only[V3.mk.injEq] at key;obtain⟨k1,k2,k3⟩:=key;have e:D*D*dot d d-(dot r0 d*dot r0 d+dot r1 d*dot r1 d+dot r2 d*dot r2 d)=d.x*(D*D*d.x-(dot r0 d*r0.x+dot r1 d*r1.x+dot r2 d*r2.x))+d.y*(D*D*d.y-(dot r0 d*r0.y+dot r1 d*r1.y+dot r2 d*r2.y))+d.z*(D*D*d.z-(dot r0 d*r0.z+dot r1 d*r1.z+dot r2 d*r2.z)):=by
  simp only[dot]
  grind
 rw[k1,k2,k3] at e;simp only[Qji,Qjat] at e;exact (Qjbc e).symm
theorem kc9{l:List V3}(h48:l.length<=48)(hl:l.all inV=true):(Sol l->ca5 l=0)/\(¬ Sol l->ca5 l=11):=by
 refine⟨Ya2 h48 hl,λhn=>?_⟩
 by_cases h0:ca5 l=0
 ·exact (hn (ma3 h0).2.2).elim
 ·unfold ca5 at h0 ⊢;rw[if_neg (by omega),if_neg (by rw[<- Qjav,hl];simp)] at h0 ⊢
  split
  ·rfl
  ·rename_i h;rw[if_neg h] at h0;exact (h0 rfl).elim
section
variable{l:List V3}{T:V3->V3}(h:Sim l T)(h48:l.length<=48)
include h h48
theorem Sim.chk:ca5 (l.map T)=ca5 l:=by
 have h1:=kc9 h48 h.li;have h2:=kc9 (l:=l.map T) (by rw[List.length_map];exact h48) h.mi
 by_cases hs:Sol l
 ·rw[h1.1 hs,h2.1 ((Sim.sol h).1 hs)]
 ·rw[h1.2 hs,h2.2 λk=>hs ((Sim.sol h).2 k)]
theorem Sim.plane{p p':Pln}(hp:p∈(ca2 l).1)(ok:okp p'=true)(hd:∀v∈l,dot p'.n (T v)<=p'.b)(on:∀v∈l,dot p.n v=p.b->dot p'.n (T v)=p'.b):p'∈(ca2 (l.map T)).1:=by
 have hc:=Sim.chk h h48;unfold ca2 at hp ⊢;rw[hc];by_cases h0:ca5 l=0
 ·rw[if_pos h0] at hp ⊢;have hs:=(ma3 h0).2.2;exact Sim.img h hs ((Sim.sol h).1 hs) hp ok hd on
 ·rw[if_neg h0] at hp;cases hp
end
theorem Bd1 {r0 r1 r2 : V3} {D : Int} (h00 : dot r0 r0 = D * D) (h11 : dot r1 r1 = D * D) (h22 : dot r2 r2 = D * D) (h01 : dot r0 r1 = 0) (h02 : dot r0 r2 = 0) (h12 : dot r1 r2 = 0) (hdet : dot r0 (a8 r1 r2) ≠ 0) (n d : V3) :
  dot r0 n*dot r0 d+dot r1 n*dot r1 d+dot r2 n*dot r2 d=D*D*dot n d:=by
 have l:=λv=>Bd0 h00 h11 h22 h01 h02 h12 hdet v
 have add:∀r:V3,dot r ⟨n.x+d.x,n.y+d.y,n.z+d.z⟩=dot r n+dot r d:=λr=>by simp only[dot];grind
 have e:=l ⟨n.x+d.x,n.y+d.y,n.z+d.z⟩;have e1:=l n;have e2:=l d;have sq:dot (⟨n.x+d.x,n.y+d.y,n.z+d.z⟩:V3) ⟨n.x+d.x,n.y+d.y,n.z+d.z⟩=dot n n+2*dot n d+dot d d:=by simp only[dot];grind
 rw[sq,add,add,add] at e;generalize dot r0 n=a0 at *
 generalize dot r1 n=a1 at *
 generalize dot r2 n=a2 at *
 generalize dot r0 d=c0 at *
 generalize dot r1 d=c1 at *
 generalize dot r2 d=c2 at *
 generalize dot n n=nn at *
 generalize dot d d=dd at *
 generalize dot n d=nd at *
 generalize D*D=DD at *
 have k:2*(a0*c0+a1*c1+a2*c2)=2*(DD*nd):=by grind
 omega
structure Rot(l:List V3)(T:V3->V3)(r0 r1 r2:V3)(D:Int):Prop extends Mat l T r0 r1 r2 D where
 h00:dot r0 r0=D*D
 h11:dot r1 r1=D*D
 h22:dot r2 r2=D*D
 h01:dot r0 r1=0
 h02:dot r0 r2=0
 h12:dot r1 r2=0
section
variable{l:List V3}{T:V3->V3}{r0 r1 r2:V3}{D:Int}(h:Rot l T r0 r1 r2 D)
include h
theorem Rot.dots(n d:V3):dot r0 n*dot r0 d+dot r1 n*dot r1 d+dot r2 n*dot r2 d=D*D*dot n d :=
 Bd1 h.h00 h.h11 h.h22 h.h01 h.h02 h.h12 (by have:=h.det;omega) n d
theorem Rot.same{u w:V3}(hu:u∈l)(hw:w∈l):dot (d7 (T u) (T w)) (d7 (T u) (T w))=dot (d7 u w) (d7 u w):=by
 obtain⟨t1,t2,t3⟩:=h.t u hu w hw;have e:=Rot.dots h (d7 u w) (d7 u w);rw[<- t1,<- t2,<- t3] at e;have f:D*((T u).x-(T w).x)*(D*((T u).x-(T w).x))+D*((T u).y-(T w).y)*(D*((T u).y-(T w).y))+D*((T u).z-(T w).z)*(D*((T u).z-(T w).z))=D*D*dot (d7 (T u) (T w)) (d7 (T u) (T w)):=by simp only[dot,d7];grind
 rw[f] at e;have hd:=Qjam h.d h.d;exact Qjaf (by omega) e
theorem Rot.nrm{n n':V3}{g:Int}(e1:g*n'.x=dot r0 n)(e2:g*n'.y=dot r1 n)(e3:g*n'.z=dot r2 n){u w:V3}(hu:u∈l)(hw:w∈l):g*(dot n' (T u)-dot n' (T w))=D*(dot n u-dot n w):=by
 obtain⟨t1,t2,t3⟩:=h.t u hu w hw;have e:=Rot.dots h n (d7 u w);rw[<- t1,<- t2,<- t3,<- e1,<- e2,<- e3,G8] at e;have f:g*n'.x*(D*((T u).x-(T w).x))+g*n'.y*(D*((T u).y-(T w).y))+g*n'.z*(D*((T u).z-(T w).z))=D*(g*(dot n' (T u)-dot n' (T w))):=by simp only[dot];grind
 rw[f,Int.mul_assoc] at e;exact Qjaf (by have:=h.d;omega) e
theorem Rot.plane (hl : l.all inV = true) (hm : (l.map T).all inV = true) (h48 : l.length ≤ 48) {p p' : Pln} {g : Int} (hp : p ∈ (ca2 l).1) (ok : okp p' = true) (hg : 0 < g) (e1 : g * p'.n.x = dot r0 p.n) (e2 : g * p'.n.y = dot r1 p.n) (e3 : g * p'.n.z = dot r2 p.n)
  {u:V3} (hu:u∈l) (on:dot p.n u=p.b) (on':dot p'.n (T u)=p'.b):p'∈(ca2 (l.map T)).1:=by
 have hs:=Od5 h.toMat hl hm;have hf:wa9 l p:=by
  unfold ca2 at hp;by_cases h0:ca5 l=0
  ·rw[if_pos h0] at hp;exact (z7 hl p).1 hp
  ·rw[if_neg h0] at hp;cases hp
 have hd:=h.d;refine Sim.plane hs h48 hp ok (λv hv=>?_) λv hv hv'=>?_
 ·have e:=Rot.nrm h e1 e2 e3 hv hu;have k:=Xc5 hd (show dot p.n v-dot p.n u<=0 by have:=hf.hd v hv;omega)
  apply Qjc;intro hno
  have:=Qjam hg (show 0<dot p'.n (T v)-dot p'.n (T u) by omega)
  omega
 ·have e:=Rot.nrm h e1 e2 e3 hv hu;rw[show dot p.n v-dot p.n u=0 by omega,Qji] at e
  have:=fa8 hg e
  omega
end
section
variable{l:List V3}{T:V3->V3}{r0 r1 r2:V3}{D:Int}(h:Rot l T r0 r1 r2 D)
include h
theorem Rot.off{n n' sft:V3}{g:Int}(e1:g*n'.x=dot r0 n)(e2:g*n'.y=dot r1 n)(e3:g*n'.z=dot r2 n){u:V3}(t:D*((T u).x-sft.x)=dot r0 u/\D*((T u).y-sft.y)=dot r1 u/\D*((T u).z-sft.z)=dot r2 u):g*(dot n' (T u)-dot n' sft)=D*dot n u:=by
 obtain⟨t1,t2,t3⟩:=t;have e:=Rot.dots h n u;rw[<- t1,<- t2,<- t3,<- e1,<- e2,<- e3] at e;have f:g*n'.x*(D*((T u).x-sft.x))+g*n'.y*(D*((T u).y-sft.y))+g*n'.z*(D*((T u).z-sft.z))=D*(g*(dot n' (T u)-dot n' sft)):=by simp only[dot];grind
 rw[f,Int.mul_assoc] at e;exact Qjaf (by have:=h.d;omega) e
end
def crs(n a c:V3):Int:=dot n (a8 a c)
def orp(n a c v:V3):Int:=crs n (d7 c a) (d7 v a)
theorem lc0(n a c v:V3):orp n a v c=-orp n a c v:=by simp only[orp,crs,dot,a8,d7];grind
theorem Od6(n a c v:V3):orp n c v a=orp n a c v:=by simp only[orp,crs,dot,a8,d7];grind
theorem Bd2(n a c v:V3):orp n a c v=crs n (d7 a v) (d7 c v):=by simp only[orp,crs,dot,a8,d7];grind
theorem Xc7(n a c:V3):orp n a c c=0:=by simp only[orp,crs,dot,a8,d7];grind
theorem Bd3(n a c:V3):orp n a c a=0:=by simp only[orp,crs,dot,a8,d7];grind
theorem ed2(a c:V3):dot a c=dot c a:=by simp only[dot];grind
theorem ie0{n a c v:V3}(hn:n≠⟨0,0,0⟩)(h1:dot a n=0)(h2:dot c n=0)(h3:dot v n=0):dot a (a8 c v)=0:=by
 apply Qjc;intro h;exact hn (Na5 (p:=⟨a,0⟩) (q:=⟨c,0⟩) (s:=⟨v,0⟩) h h1 h2 h3)
theorem vc7 {n m a c v : V3} (hn : n ≠ ⟨0, 0, 0⟩) (h1 : dot a n = 0) (h2 : dot c n = 0) (h3 : dot v n = 0) (m1 : dot m a < 0) (m2 : dot m c < 0) (m3 : dot m v < 0)
  (c1:0<crs n a c) (c2:0<crs n c v):0<crs n a v:=by
 have e:crs n c v*dot m a+crs n v a*dot m c+crs n a c*dot m v=dot a (a8 c v)*dot m n:=by simp only[crs,dot,a8];grind
 rw[ie0 hn h1 h2 h3,Qjw] at e;have k1:=Qjo c2 m1;have k2:=Qjo c1 m3;have k3:0<crs n v a*dot m c:=by omega
 have k4:crs n v a<0:=by
  apply Qjc;intro hno
  have:=Int.mul_nonneg (show 0<=crs n v a by omega) (show 0<=-dot m c by omega)
  rw[Int.mul_neg] at this;omega
 have:crs n a v=-crs n v a:=by simp only[crs,dot,a8];grind
 omega
theorem Od7{n a c:V3}(hn:n≠⟨0,0,0⟩)(h1:dot n a=0)(h2:dot n c=0)(h:crs n a c=0):a8 a c=⟨0,0,0⟩:=by
 apply Qjc;intro hne;have hp:=ma5 (d:=n) (pa1 h1 h2);rw[show dot n (a8 a c)=0 from h,Qjw] at hp
 rcases Qjq.1 hp with e|e
 ·have:=ca3 hne;omega
 ·have:=ca3 hn;omega
theorem Ob6{a c m:V3}(h:a8 a c=⟨0,0,0⟩)(m':V3):dot m c*dot m' a=dot m a*dot m' c:=by
 have e:dot m c*dot m' a-dot m a*dot m' c=-dot (a8 m m') (a8 a c):=by simp only[dot,a8];grind
 rw[h] at e;have z:dot (a8 m m') ⟨0,0,0⟩=0:=by simp[dot]
 rw[z] at e;omega
theorem ma6(m a c:V3):dot m (d7 a c)=dot m a-dot m c:=by simp only[dot,d7];grind
theorem ie1(n a c:V3):dot (d7 a c) n=dot n a-dot n c:=by simp only[dot,d7];grind
def Hi(X:List V3)(v m:V3):Prop:=∀w∈X,w≠v->dot m w<dot m v
theorem Od8 {X : List V3} (hX : ∀ v ∈ X, ∃ m, Hi X v m) {n a c v : V3} {k : Int} (hn : n ≠ ⟨0, 0, 0⟩) (ha : a ∈ X) (hc : c ∈ X) (hv : v ∈ X) (pa : dot n a = k) (pc : dot n c = k) (pv : dot n v = k)
  (h1:a≠c) (h2:a≠v) (h3:c≠v):orp n a c v≠0:=by
 intro h;have hz:=Od7 hn (by rw[ma6];omega) (by rw[ma6];omega) h
 obtain⟨m1,k1⟩:=hX a ha;obtain⟨m2,k2⟩:=hX c hc;obtain⟨m3,k3⟩:=hX v hv;have a1:=k1 c hc (Ne.symm h1);have a2:=k1 v hv (Ne.symm h2);have b1:=k2 a ha h1;have b2:=k2 v hv (Ne.symm h3);have c1:=k3 a ha h2;have c2:=k3 c hc h3;have e2:=Ob6 (m:=m1) hz m2;have e3:=Ob6 (m:=m1) hz m3;rw[ma6,ma6,ma6,ma6] at e2 e3;obtain⟨r,hr⟩:∃r,r=dot m1 a-dot m1 v:=⟨_,rfl⟩;obtain⟨s,hs⟩:∃s,s=dot m1 a-dot m1 c:=⟨_,rfl⟩;obtain⟨x2,hx2⟩:∃x,x=dot m2 c-dot m2 a:=⟨_,rfl⟩;obtain⟨y2,hy2⟩:∃x,x=dot m2 v-dot m2 a:=⟨_,rfl⟩;obtain⟨x3,hx3⟩:∃x,x=dot m3 c-dot m3 a:=⟨_,rfl⟩;obtain⟨y3,hy3⟩:∃x,x=dot m3 v-dot m3 a:=⟨_,rfl⟩;rw[show dot m1 v-dot m1 a=-r by omega,show dot m1 c-dot m1 a=-s by omega,<- hx2,<- hy2,Qjay,Qjay] at e2
 rw[show dot m1 v-dot m1 a=-r by omega,show dot m1 c-dot m1 a=-s by omega,<- hx3,<- hy3,Qjay,Qjay] at e3
 have r0:0<r:=by omega
 have s0:0<s:=by omega
 have p1:0<x2:=by omega
 have p2:y2<x2:=by omega
 have p3:0<y3:=by omega
 have p4:x3<y3:=by omega
 have q2:r*x2=s*y2:=by omega
 have q3:r*x3=s*y3:=by omega
 have hrs:r<s:=by
  apply Qjc;intro hno;have t1:s*y2<s*x2:=Qjao p2 s0;have t2:s*x2<=r*x2:=Int.mul_le_mul_of_nonneg_right (by omega) (by omega)
  omega
 have t1:r*y3<s*y3:=Int.mul_lt_mul_of_pos_right hrs p3;have t2:r*x3<r*y3:=Qjao p4 r0;omega
end Go.Ev.Ce
