/- Own work. -/
import Derived.Test.YtdigbcehbdiibaaGreatDoorEvOgJ2
import Derived.ChangeStays
import Derived.ChangeSame
import Derived.OpenShut
import Derived.RowKit
import Derived.Shelf.Strings.SlTrimAscii
set_option linter.all false
noncomputable section
def Qja:=@List.filter_append
def Qjb:=@List.take_append_of_le_length
def Qjc:=@List.findIdx_getElem
def Qjd:=@List.filter_cons
def Qje:=@List.take_succ_eq_append_getElem
def Qjf:=@Bool.not_eq_true
def Qjg:=@List.findIdx_lt_length_of_exists
def Qjh:=@List.length_filter_le
def Qji:=@List.length_set
def Qjj:=@Nat.ble_eq
def Qjk:=@Array.size_push
def Qjl:=@List.drop_eq_nil_of_le
def Qjm:=@List.getElem_set_self
def Qjn:=@List.take_take
def Qjo:=@List.take_set_of_le
def Qjp:=@List.drop_set_of_lt
def Qjq:=@List.mem_singleton
def Qjr:=@Bool.not_eq_false'
namespace Go.Ev.Ce
open Go Go.Ev Go.Ev.L Go.Proofs Go.Sort
def eqV(x y:V3):Bool:=x.x==y.x&&(x.y==y.y&&(x.z==y.z&&true))
theorem Qc8(x y:V3):eqV x y=true↔x=y:=by
 unfold eqV;simp only[Qii,Qas,beq_iff_eq];refine⟨λ⟨h1,h2,h3⟩=>V3.ext' h1 h2 h3,λh=>by subst h;exact⟨rfl,rfl,rfl⟩⟩
theorem Ic1{l:List V3}{j:Nat}(h:j<l.length):ldR tV (bL tV l) (0+j)=true:=by rw[Qar];exact ve6 tV h
theorem rc5{l:List V3}{j:Nat}(h:j<l.length):rdR tV (bL tV l) (0+j)=gL tV l j:=by rw[Qar];exact ve5 tV h
theorem ne6(l:List V3)(n:Nat):E7 (bL tV l) n=bL tV (l.take n):=by unfold bL;rw[D5,i8,i8,List.map_take]
theorem Fd6(l:List V3)(n:Nat):i9 (bL tV l) n=bL tV (l.drop n):=by unfold bL;rw[D3,i8,i8,List.map_drop]
theorem ne7(n:Nat):List.replicate n [i 0,i 0,i 0]=bL tV (List.replicate n ⟨0,0,0⟩):=by unfold bL;rw[i8,List.map_replicate];rfl
def dvF:V3->List V3->List V3
 |_,[]=>[]
 |a,x::l=>if eqV x a then dvF x l else x::dvF x l
def ddV:List V3->List V3
 |[]=>[]
 |x::l=>x::dvF x l
structure df5(l:List V3)(n:Nat)(cur:List V3)(m j:Nat)(R:List V3):Prop where
 len:cur.length=l.length
 t:cur.take m++dvF (gL tV l (j-1)) ((l.take n).drop j)=R
 d:cur.drop (j-1)=l.drop (j-1)
 le:m+1<=j
theorem Md1(l:List V3)(n o:Nat)(hn:n<=l.length)(hl:l.length<=1000000000)(ho:o<n)(m:Nat)(cur:List V3)(R:List V3)(hd:df5 l n cur m (o+1) R) :
  ∃t s,lp (r5 ⟨n,0+o,n-o⟩) ⟨(m:Int),((1:Nat):Int),bL tV cur⟩=(t,s)/\(t=1/\∃m' cur' k,s=⟨((m':Nat):Int),k,bL tV cur'⟩/\cur'.length=l.length/\cur'.take m'=R/\m'<=n):=by
 refine ga3 (step:=r5 ⟨n,0+o,n-o⟩) (mk:=λj (x:Nat×List V3)=>(⟨(x.1:Int),(j:Int),bL tV x.2⟩:o9)) (n-o) (λj x=>df5 l n x.2 x.1 (o+j) R/\1<=j/\x.1<=n) (λt s=>t=1/\∃m' cur' k,s=⟨((m':Nat):Int),k,bL tV cur'⟩/\cur'.length=l.length/\cur'.take m'=R/\m'<=n) (by omega) (λj x hj hx=>?_) (λj x hj hx=>?_) 1 (m,cur) ⟨hd,Qaf _,by have:=hd.le;show m<=n;omega⟩
 ·obtain⟨m,cur⟩:=x;obtain⟨⟨h1,h2,h3,h4⟩,hj1,hmn⟩:=hx
  simp only at h1 h2 h3 h4 hmn
  have hoj:o+j<n:=by omega
  have hjc:o+j<cur.length:=by omega
  have hjc':o+(j-1)<cur.length:=by omega
  have hmc:m<cur.length:=by omega
  have hg':gL tV cur (o+(j-1))=gL tV l (o+j-1):=by rw[show o+(j-1)=o+j-1 by omega];exact bd3 tV h3
  have hd1:cur.drop (o+j)=l.drop (o+j):=by have:=Pc6 h3 1;rw[show o+j-1+1=o+j by omega] at this;exact this
  have hg:gL tV cur (o+j)=gL tV l (o+j):=bd3 tV hd1;have hWm:W ((m:Int)+1)=((m+1:Nat):Int):=by rw[eb6 (by omega) (by omega)];omega
  have hWj:W ((j:Int)-1)=((j-1:Nat):Int):=by rw[eb6 (by omega) (by omega)];omega
  have hb:Nat.blt m cur.length=true:=by rw[Qcf];exact hmc
  have hrow:j9 (bL tV cur) m=tV.row (gL tV cur m):=Ea9 tV hmc;have sp:∀(v:V3) (x1 x2 x3:Int),va3 (tV.row v) 0 [i x1,i x2,i x3]=tV.row ⟨x1,x2,x3⟩:=λ_ _ _ _=>rfl
  have rl:∀v:V3,Nat.ble 3 (len (tV.row v))=true:=λ_=>rfl
  simp only[r5,Y9,Int.toNat_natCast,Qar,hWj,ve6 tV hjc,ve6 tV hjc',ve5 tV hjc,ve5 tV hjc',m8 hj (show n-o<=4611686018427387904 by omega),hWm,hg,hg',hrow,Ba4,hb,sp,rl,ie5,f7 (show m<n by omega)]
  rw[btD (l0 hj)];simp only[f7 hj,f7 (show j-1<n-o by omega),f0,Qig]
  rw[show ((gL tV l (o+j)).x==(gL tV l (o+j-1)).x&&((gL tV l (o+j)).y==(gL tV l (o+j-1)).y&&((gL tV l (o+j)).z==(gL tV l (o+j-1)).z&&true)))=eqV (gL tV l (o+j)) (gL tV l (o+j-1)) from rfl]
  have hcons:(l.take n).drop (o+j)=gL tV l (o+j)::(l.take n).drop (o+(j+1)):=by
   rw[Qha (by rw[Qie];omega),List.getElem_take,Mb0 tV (by omega)]
   rfl
  rw[hcons] at h2;have hlast:o+(j+1)-1=o+j:=by omega
  unfold dvF at h2;cases he:eqV (gL tV l (o+j)) (gL tV l (o+j-1)) with
  |true =>
   rw[he] at h2;simp only[if_true] at h2;refine .nx ⟨(m,cur),rfl,⟨⟨h1,?_,?_,by show m+1<=o+(j+1);omega⟩,by omega,hmn⟩⟩
   ·rw[hlast];exact h2
   ·rw[hlast];exact hd1
  |false =>
   rw[he] at h2;simp only[Qhc,if_false] at h2;refine .nx ⟨(m+1,cur.set m (gL tV l (o+j))),rfl,⟨⟨by rw[Qji];exact h1,?_,?_,by show m+1+1<=o+(j+1);omega⟩,by omega,by show m+1<=n;omega⟩⟩
   ·rw[hlast];show (cur.set m (gL tV l (o+j))).take (m+1)++_=R;rw[Qje (by rw[Qji];exact hmc),Qjm,Qjo (Qaf _),List.append_assoc]
    exact h2
   ·rw[hlast];show (cur.set m (gL tV l (o+j))).drop (o+j)=_;rw[Qjp (by omega),hd1]
 ·obtain⟨m,cur⟩:=x;obtain⟨⟨h1,h2,h3,h4⟩,hj1,hmn⟩:=hx
  simp only at h1 h2 h3 h4 hmn
  refine⟨1,?_,rfl,m,cur,_,rfl,h1,?_,hmn⟩
  ·simp only[r5,Y9];rw[bfD (by omega)]
  ·rw[Qjl (by rw[Qie];omega)] at h2
   unfold dvF at h2;rw[Qbv] at h2;exact h2
theorem ne8(l:List V3)(n:Nat)(hn:n<=l.length)(hl:l.length<=1000000000) :
  ∃m r,Q1 ⟨n,bL tV l⟩=⟨1,m,bL tV r⟩/\m<=r.length/\r.take m=ddV (l.take n)/\r.length=l.length:=by
 unfold Q1 La3
 simp only
 by_cases h2:(n:Int)<2
 ·rw[btD h2];refine⟨n,l,rfl,hn,?_,rfl⟩
  have:n=0\/n=1:=by omega
  rcases this with rfl|rfl
  ·rfl
  ·cases l with
   |nil=>rfl
   |cons x l=>rfl
 ·rw[bfD h2];have h1n:1<=n:=by omega
  have hI : ∀ j, j < n → 1 ≤ j → l.take j ++ dvF (gL tV l (j - 1)) ((l.take n).drop j) = ddV (l.take n) →
    (eqV (gL tV l j) (gL tV l (j-1))=true->df5 l n l j (j+1) (ddV (l.take n)))/\(eqV (gL tV l j) (gL tV l (j-1))=false->l.take (j+1)++dvF (gL tV l (j+1-1)) ((l.take n).drop (j+1))=ddV (l.take n)):=by
   intro j hj hj1 hR;have hcons:(l.take n).drop j=gL tV l j::(l.take n).drop (j+1):=by
    rw[Qha (by rw[Qie];omega),List.getElem_take,Mb0 tV (by omega)]
   rw[hcons] at hR;unfold dvF at hR;constructor
   ·intro he;rw[he] at hR;simp only[if_true] at hR;exact⟨rfl,hR,rfl,Qaf _⟩
   ·intro he;rw[he] at hR;simp only[Qhc,if_false] at hR;rw[xc0 tV (show j<l.length by omega),List.append_assoc]
    exact hR
  have inner:∀k,k<n->1<=k->df5 l n l k (k+1) (ddV (l.take n))->∃m' cur' k',lp (r5 ⟨n,0+k,n-k⟩) ⟨(k:Int),1,bL tV l⟩=(1,⟨((m':Nat):Int),k',bL tV cur'⟩)/\cur'.length=l.length/\cur'.take m'=ddV (l.take n)/\m'<=n:=by
   intro k hk hk1 hc;obtain⟨t,s,e1,rfl,m',cur',k',rfl,e2,e3,e4⟩:=Md1 l n k hn hl hk k l _ hc;exact⟨m',cur',k',e1,e2,e3,e4⟩
  have key:=ga3 (step:=Q0 ⟨n,bL tV l⟩) (mk:=λj (_:Unit)=>(⟨(j:Int)⟩:db3)) n (λj _=>1<=j/\j<=n/\l.take j++dvF (gL tV l (j-1)) ((l.take n).drop j)=ddV (l.take n))
   (λt s=>(t=1/\∃k:Nat,s=⟨(k:Int)⟩/\k<n/\1<=k/\df5 l n l k (k+1) (ddV (l.take n)))\/(t=2/\l.take n=ddV (l.take n))) (by omega) (λj x hj hx=>?_) (λj x hj hx=>?_) 1 () ⟨Qaf _,h1n,by
    cases l with
    |nil=>simp only[List.length_nil] at hn;omega
    |cons x l =>
     cases n with
     |zero=>omega
     |succ n=>rfl⟩
  ·obtain⟨t,s,e1,e2⟩:=key;rw[show (⟨1⟩:db3)=⟨((1:Nat):Int)⟩ from rfl,e1]
   rcases e2 with⟨rfl,k,rfl,hk,hk1,hc⟩|⟨rfl,he⟩
   ·obtain⟨m',cur',k',e2,e3,e4,e5⟩:=inner k hk hk1 hc;simp only[Int.toNat_natCast,e2];simp only[Qar,Nat.sub_zero];refine⟨m',cur'.take m'++(List.replicate (n-m') ⟨0,0,0⟩++cur'.drop (m'+(n-m'))),?_,?_,?_,?_⟩
    ·rw[ne6,ne7,Fd6,cb5,cb5];rfl
    ·rw[Qdc,Qie,e3];omega
    ·rw[Qjb (by rw[Qie,e3];omega),Qjn,Nat.min_self,e4]
    ·rw[Qdc,Qdc,Qie,Qbm,Qin,e3];omega
   ·exact⟨n,l,rfl,hn,he,rfl⟩
  ·obtain⟨hj1,hjn,hR⟩:=hx;obtain⟨i1,i2⟩:=hI j hj hj1 hR;have hWj:W ((j:Int)-1)=((j-1:Nat):Int):=by rw[eb6 (by omega) (by omega)];omega
   have hjl:j<l.length:=by omega
   have hjl':j-1<l.length:=by omega
   simp only[Q0,Z0,Int.toNat_natCast,hWj,Ic1 hjl,Ic1 hjl',rc5 hjl,rc5 hjl',m8 hj (show n<=4611686018427387904 by omega)]
   rw[btD (l0 hj),bt (f7 hj),bt (f7 (show j-1<n by omega)),bt (f7 (show j<n+1 by omega))]
   simp only[f0];rw[show ((gL tV l j).x==(gL tV l (j-1)).x&&((gL tV l j).y==(gL tV l (j-1)).y&&((gL tV l j).z==(gL tV l (j-1)).z&&true)))=eqV (gL tV l j) (gL tV l (j-1)) from rfl]
   cases he:eqV (gL tV l j) (gL tV l (j-1)) with
   |false=>exact .nx ⟨(),rfl,by omega,by omega,i2 he⟩
   |true =>
    obtain⟨m',cur',k',e2,e3,e4,e5⟩:=inner j hj hj1 (i1 he);rw[e2];simp only[f7 (show m'<n+1 by omega)]
    exact .ex (.inl ⟨rfl,j,rfl,hj,hj1,i1 he⟩)
  ·obtain⟨hj1,hjn,hR⟩:=hx;refine⟨2,?_,.inr ⟨rfl,?_⟩⟩
   ·simp only[Q0,Z0];rw[bfD (by omega)]
   ·have:j=n:=by omega
    subst this;rw[Qjl (by rw[Qie];omega)] at hR
    unfold dvF at hR;rw[Qbv] at hR;exact hR
def cd0(l:List V3):Prop:=l.Pairwise LtV
theorem xc3{x y z:V3}(h1:LtV x y)(h2:LtV y z):LtV x z:=by unfold LtV at *;omega
theorem Qc9(x:V3):¬ LtV x x:=by unfold LtV;omega
theorem Ge4(x y:V3):LtV x y\/x=y\/LtV y x:=by
 by_cases h1:LtV x y
 ·exact .inl h1
 ·by_cases h2:LtV y x
  ·exact .inr (.inr h2)
  ·refine .inr (.inl ?_);unfold LtV at h1 h2;exact V3.ext' (by omega) (by omega) (by omega)
theorem ze0(l:List V3):List.Perm (ic1 l) l:=List.mergeSort_perm l _
theorem Pe7(x y z:V3)(h1:(!ltOf Ya6 y x)=true)(h2:(!ltOf Ya6 z y)=true):(!ltOf Ya6 z x)=true:=by
 rw[Za8] at *
 simp only[Qcc,decide_eq_false_iff_not] at *
 unfold LtV at *
 omega
theorem Pe8(x y:V3):((!ltOf Ya6 y x)||(!ltOf Ya6 x y))=true:=by
 rw[Za8,Za8];by_cases h:LtV y x
 ·have h2:¬ LtV x y:=λh2=>Qc9 x (xc3 h2 h)
  simp[h2]
 ·simp[h]
theorem be3(l:List V3):(ic1 l).Pairwise λx y=>(!ltOf Ya6 y x)=true:=List.pairwise_mergeSort Pe7 Pe8 l
theorem Ge5(p:V3):∀(a:V3) (l:List V3),p∈a::dvF a l↔p∈a::l
 |a,[]=>by simp[dvF]
 |a,x::l=>by
  have ih:=Ge5 p x l;unfold dvF;split
  ·rename_i h;rw[Qc8] at h;subst h;rw[ih];simp
  ·simp only[Qbi] at ih ⊢;rw[ih]
theorem Gf2(p:V3):∀l:List V3,p∈ddV l↔p∈l
 |[]=>Iff.rfl
 |x::l=>Ge5 p x l
theorem Ge6:∀(a:V3) (l:List V3),(a::l).Pairwise (λx y=>(!ltOf Ya6 y x)=true)->cd0 (a::dvF a l)
 |a,[],_=>List.pairwise_singleton _ _
 |a,x::l,h=>by
  obtain⟨h1,h2⟩:=Qik.1 h;have ih:=Ge6 x l h2;have hle:=h1 x Qch;rw[Za8] at hle;have hle:¬ LtV x a:=by simpa using hle
  unfold dvF;split
  ·rename_i he;rw[Qc8] at he;subst he;exact ih
  ·rename_i hne;have hlt:LtV a x:=by
    rcases Ge4 a x with h|h|h
    ·exact h
    ·exact absurd ((Qc8 _ _).2 h.symm) hne
    ·exact absurd h hle
   refine Qik.2 ⟨λp hp=>?_,ih⟩
   rcases Qbi.1 hp with e|hp'
   ·subst e;exact hlt
   ·exact xc3 hlt ((Qik.1 ih).1 p hp')
theorem cd1(l:List V3):cd0 (ddV (ic1 l)):=by
 have h:=be3 l;cases hs:ic1 l with
 |nil=>exact .nil
 |cons a l'=>rw[hs] at h;exact Ge6 a l' h
def dis(l:List V3):List V3:=ddV (ic1 l)
theorem ec2(l:List V3)(v:V3):v∈dis l↔v∈l:=by unfold dis;rw[Gf2,(ze0 l).mem_iff]
theorem Td0(l:List V3):(dis l).Nodup:=List.Pairwise.imp (λ{x y} (h:LtV x y) (e:x=y)=>Qc9 y (e ▸ h)) (cd1 l)
theorem Ge7(l:List V3):(dis l).length<=l.length:=by
 have:=List.Nodup.length_le_of_subset (Td0 l) (λv hv=>(ec2 l v).1 hv)
 exact this
theorem Td1(l:List V3)(n:Nat)(hn:n<=l.length):slR tV (bL tV l) 0 n=l.take n:=yd3 tV (by rw[Qie];omega) λk hk=>by
 rw[Qar,Ea9 tV (by omega)]
 congr 1;simp[gL,Qda,Qap,hk]
theorem cd2(l:List V3)(n:Nat)(hn:n<=l.length):okS tV (bL tV l) 0 n=true:=cc5 tV (f:=λk=>gL tV l k) λk hk=>by rw[Qar,Ea9 tV (by omega)]
theorem Td2(a:V3)(l:List V3)(hl:l.length<=1000000):la7 (a,l)=⟨1,(a::l).length,bL tV (a::l)⟩:=by
 have ec:l6 (λk=>tV.row (gL tV (a::l) k)) (List.range (l.length+1))=bL tV (a::l):=Bb2 tV (a::l)
 unfold la7 Ya8;simp only[ec,Ba4];have r:Nat.ble ((0+(a::l).length)*24) room=true:=by rw[Qjj];unfold room;simp only[List.length_cons];omega
 rw[r,Qar];rfl
theorem Rc0(a:V3)(l:List V3)(hl:l.length<=1000000):∃m r,Q1 ⟨(a::l).length,app (bL tV (ic1 (slR tV (bL tV (a::l)) 0 (a::l).length))) (i9 (bL tV (a::l)) (a::l).length)⟩=⟨1,m,bL tV r⟩/\m<=r.length/\r.take m=dis (a::l)/\r.length=l.length+1:=by
 have hs:(ic1 (a::l)).length=(a::l).length:=Sd2 _;rw[Wc5,Fd6,cb5];obtain⟨m,r,k1,k2,k3,k4⟩:=ne8 (ic1 (a::l)++(a::l).drop (a::l).length) (a::l).length (by rw[Qdc,hs];omega) (by rw[Qdc,hs,Qin];simp only[List.length_cons];omega)
 refine⟨m,r,k1,k2,?_,by rw[k4,Qdc,hs,Qin];simp only[List.length_cons];omega⟩
 rw[k3,Qjb (by rw[hs];omega),List.take_of_length_le (by rw[hs];omega)]
 rfl
theorem ne9(l:List V3)(hl:l.length<=2000000)(r:List V3):(Bool.and (Nat.ble l.length room) (Bool.and (Nat.ble l.length (len (bL tV (l++r)))) (okS tV (bL tV (l++r)) 0 l.length)))=true:=by
 rw[cd2 _ _ (by rw[Qdc];omega),Ba4,Qas,Qas,Qjj,Qjj]
 refine⟨by unfold room;omega,by rw[Qdc];omega,rfl⟩
theorem id6(a:V3)(l:List V3)(hl:l.length<=1000000):Rd (one (r1L tV)) (Da7 (a,l)) (λr=>r=dis (a::l)):=by
 obtain⟨m,r,k1,k2,k3,_⟩:=Rc0 a l hl;have hok:okL tV (l.length+1) (λk=>tV.row (gL tV (a::l) k))=true:=cc5 tV (f:=λk=>gL tV (a::l) k) λ_ _=>rfl
 have hr:=ne9 (a::l) (by simp only[List.length_cons];omega) []
 rw[Qbv] at hr;unfold Da7;simp only[De1,De2,Td2 a l hl,hok,k1,f0,Qij,hr];refine⟨_,r.take m,rfl,?_,k3⟩;show Bool.rec (motive:=λ_=>Option (List V3)) none (some (slR tV (bL tV r) 0 m)) (Bool.and true (okS tV (bL tV r) 0 m))=_
 rw[Td1 r m k2,cd2 r m k2];rfl
theorem ze1(a:V3)(l:List V3)(hl:l.length<=1000000):rb6 (a,l)=dis (a::l):=(id6 a l hl).p
theorem ze2(a:V3)(l:List V3)(hl:l.length<=1000000):rb7 (a,l)=true:=(id6 a l hl).g
end Go.Ev.Ce
namespace Go.Ev.Ce
open Go Go.Ev Go.Ev.L Go.Proofs
theorem oe0(p:Pln)(v:V3):db7 p v=some (i (P8 p v),[]):=by
 unfold db7 P8;simp only[of4,of5,(Rb3 v).1,(Rb3 v).2,Fe3,Fe4,f0];cases hp:okp p with
 |false=>rfl
 |true =>
  cases hv:inV v with
  |false=>rfl
  |true =>
   have hb:=Ed6 hp;have hd:=cf4 hb hv;have e:V8 p.n v=dot p.n v:=by
    unfold V8;simp only[Hc7,Zc3];exact qc9 (hd.mono (by omega))
   rw[e];simp only[Bool.not_true,Lc7,Qig,if_true,bb2];by_cases h1:dot p.n v<p.b
   ·rw[if_pos h1,if_pos (by omega)]
   ·rw[if_neg h1];by_cases h2:dot p.n v>p.b
    ·rw[if_pos h2,if_neg (by omega),if_pos (by omega)]
    ·rw[if_neg h2,if_neg (by omega),if_neg (by omega)]
theorem Rc1(p:Pln)(v:V3):sa0 p v=P8 p v:=by unfold sa0;rw[oe0];rfl
theorem Rc2(p:Pln)(v:V3):sa1 p v=true:=by unfold sa1;rw[oe0];rfl
theorem qf6{v:V3}(h1:Sm 1000000000000000000 v.x)(h2:Sm 1000000000000000000 v.y)(h3:Sm 1000000000000000000 v.z):ea3 [v.x,v.y,v.z]=g3 v/\ea4 [v.x,v.y,v.z]=true:=by
 have hd:=Ed5 [v.x,v.y,v.z] (by simp) (by
  intro x hx;simp only[Qbi,List.not_mem_nil,or_false] at hx
  rcases hx with rfl|rfl|rfl<;>assumption)
 have hg:([v.x,v.y,v.z].foldl (λg x=>Nat.gcd g x.natAbs) 0:Nat)=Nat.gcd (Nat.gcd v.x.natAbs v.y.natAbs) v.z.natAbs:=by
  simp only[List.foldl_cons,List.foldl_nil,Nat.gcd_zero_left]
 exact⟨by unfold ea3;rw[hd,hg];rfl,by unfold ea4;rw[hd];rfl⟩
theorem df6{v:V3}(h1:Sm 1000000000000000000 v.x)(h2:Sm 1000000000000000000 v.y)(h3:Sm 1000000000000000000 v.z) :
  db6 v=if g3 v=0 then some (.tup [.agg (tV.row ⟨0,0,0⟩),i 0],[]) else some (.tup [.agg (tV.row ⟨W (Int.tdiv v.x (g3 v)),W (Int.tdiv v.y (g3 v)),W (Int.tdiv v.z (g3 v))⟩),i (g3 v)],[]):=by
 obtain⟨e1,e2⟩:=qf6 h1 h2 h3;unfold db6;simp only[e1,e2,f0];by_cases h:g3 v=0
 ·rw[if_pos h,bt (by simpa using h)];rfl
 ·rw[if_neg h,bf (by simpa using h),bf (by simpa using h),bf (by simpa using h),bf (by simpa using h)];rfl
theorem id7(a c d:V3):Da5 a c d=some (.tup [.agg (tP.row (G7 a c d).1),b (G7 a c d).2],[]):=by
 unfold Da5 G7;simp only[(Rb3 _).1,(Rb3 _).2];cases ha:inV a with
 |false=>rfl
 |true =>
  cases hc:inV c with
  |false=>rfl
  |true =>
   cases hd:inV d with
   |false=>rfl
   |true =>
    obtain⟨e,k1,k2,k3⟩:=Rb2 ha hc hd;have e':ha8 (Ka0 c a) (Ka0 d a)=d7 (sub c a) (sub d a):=e;rw[e'];generalize d7 (sub c a) (sub d a)=n at *
    have m1:=k1.mono (m:=1000000000000000000) (by omega)
    have m2:=k2.mono (m:=1000000000000000000) (by omega)
    have m3:=k3.mono (m:=1000000000000000000) (by omega)
    have hpr:=df6 m1 m2 m3;have gp:wb1 n=true:=by unfold wb1;rw[hpr];split<;>rfl
    by_cases h0:g3 n=0
    ·have pp:Oa9 n=(⟨0,0,0⟩,0):=by unfold Oa9;rw[hpr,if_pos h0];rfl
     have hz:V8 ⟨0,0,0⟩ a=0:=by unfold V8;simp only[Qiq];rfl
     simp only[gp,pp,hz,Qig,if_true,h0];rfl
    ·have hp:=wc8 n;have q1:=xb5 (g:=g3 n) k1 (by omega)
     have q2:=xb5 (g:=g3 n) k2 (by omega)
     have q3:=xb5 (g:=g3 n) k3 (by omega)
     rw[qc9 (q1.mono (by omega)),qc9 (q2.mono (by omega)),qc9 (q3.mono (by omega))] at hpr
     have pp:Oa9 n=(⟨Int.tdiv n.x (g3 n),Int.tdiv n.y (g3 n),Int.tdiv n.z (g3 n)⟩,g3 n):=by unfold Oa9;rw[hpr,if_neg h0];rfl
     have hdot:V8 ⟨Int.tdiv n.x (g3 n),Int.tdiv n.y (g3 n),Int.tdiv n.z (g3 n)⟩ a=dot ⟨Int.tdiv n.x (g3 n),Int.tdiv n.y (g3 n),Int.tdiv n.z (g3 n)⟩ a:=by
      unfold V8;simp only[Hc7,Zc3];obtain⟨⟨a1,a2⟩,⟨a3,a4⟩,a5,a6⟩:=(Mb5 a).1 ha;have r1:=mb q1.1 q1.2 a1 a2;have r2:=mb q2.1 q2.2 a3 a4;have r3:=mb q3.1 q3.2 a5 a6;rw[eb6 (by omega) (by omega)]
      rfl
     simp only[gp,pp,hdot,Qig,if_true,h0,if_false,show g3 n>0 from by omega,decide_true]
     rfl
theorem ec3(a b c:V3):L3 a b c=G7 a b c:=by unfold L3;rw[id7];rfl
theorem Ic2(a b c:V3):qa7 a b c=true:=by unfold qa7;rw[id7];rfl
theorem df7(v:V3)(p:Pln):lb5 ⟨v.x,v.y,v.z,p.n.x,p.n.y,p.n.z,p.b⟩=⟨1,P8 p v != 0⟩:=by
 unfold lb5 Qb0;simp only[Rc1,Rc2,f0]
theorem qf7(l:List V3)(p:Pln)(hl:l.length<=1000000000):ba9 ⟨l,p.n.x,p.n.y,p.n.z,p.b⟩=⟨1,if l.any (λv=>P8 p v != 0) then ((l.findIdx (λv=>P8 p v != 0):Nat):Int) else -1⟩:=by
 have h:=ga1 (step:=J9 ⟨l,(l.length:Int),p.n.x,p.n.y,p.n.z,p.b⟩) (mk:=λj=>(⟨(j:Int)⟩:fa7)) (c:=λv=>P8 p v != 0) (u:=1) (fin:=2) tV l hl
  (λj hj=>by
   simp only[J9,R3,Int.toNat_natCast,df7,m8 hj (by omega)]
   rw[bt (La0 hj),bt (f7 hj)]
   rfl)
  (by simp only[J9,R3];rw[bf (sa3 (Qia _))]) 0 (Qbw _)
 rw[Qih] at h;unfold ba9 wa8;simp only[g8,i5];rw[show (⟨0⟩:fa7)=⟨((0:Nat):Int)⟩ from rfl,h]
 split
 ·simp only[Qar];rfl
 ·rfl
theorem Ge8(l:List V3)(p:Pln)(hl:l.length<=1000000000):q9 ⟨l,p.n.x,p.n.y,p.n.z,p.b⟩=⟨1,l.any λv=>P8 p v != 0⟩:=by
 unfold q9 la0;simp only[g8,i5,qf7 l p hl];split
 ·rename_i h;rw[h,show decide (((l.findIdx (λv=>P8 p v != 0):Nat):Int)>=0)=true from decide_eq_true (by omega)];rfl
 ·rename_i h;rw[Qjf] at h;rw[h];rfl
theorem qf8(v:V3)(p:Pln):Xa2 ⟨v.x,v.y,v.z,p.n.x,p.n.y,p.n.z,p.b⟩=⟨1,decide (P8 p v>0)⟩:=by
 unfold Xa2 rb3;simp only[Rc1,Rc2,f0]
theorem qf9(l:List V3)(p:Pln)(hl:l.length<=1000000000):ca0 ⟨l,p.n.x,p.n.y,p.n.z,p.b⟩=⟨1,if l.any (λv=>decide (P8 p v>0)) then ((l.findIdx (λv=>decide (P8 p v>0)):Nat):Int) else -1⟩:=by
 have h:=ga1 (step:=K0 ⟨l,(l.length:Int),p.n.x,p.n.y,p.n.z,p.b⟩) (mk:=λj=>(⟨(j:Int)⟩:fa7)) (c:=λv=>decide (P8 p v>0)) (u:=1) (fin:=2) tV l hl
  (λj hj=>by
   simp only[K0,R4,Int.toNat_natCast,qf8,m8 hj (by omega)]
   rw[bt (La0 hj),bt (f7 hj)]
   rfl)
  (by simp only[K0,R4];rw[bf (sa3 (Qia _))]) 0 (Qbw _)
 rw[Qih] at h;unfold ca0 xa3;simp only[g8,i5];rw[show (⟨0⟩:fa7)=⟨((0:Nat):Int)⟩ from rfl,h]
 split
 ·simp only[Qar];rfl
 ·rfl
theorem rf0(l:List V3)(p:Pln)(hl:l.length<=1000000000):T3 ⟨l,p.n.x,p.n.y,p.n.z,p.b⟩=⟨1,l.any λv=>decide (P8 p v>0)⟩:=by
 unfold T3 la3;simp only[g8,i5,qf9 l p hl];split
 ·rename_i h;rw[h,show decide (((l.findIdx (λv=>decide (P8 p v>0)):Nat):Int)>=0)=true from decide_eq_true (by omega)];rfl
 ·rename_i h;rw[Qjf] at h;rw[h];rfl
def bey(l:List V3)(p:Pln):Bool:=l.any λv=>decide (P8 p v>0)
theorem Td3(l:List V3)(p:Pln)(hl:l.length<=1000000000):Ta0 l p=some (b (bey l p),[]):=by
 unfold Ta0;simp only[g8,i5,rf0 l p hl];rfl
theorem df8(l:List V3)(p:Pln)(hl:l.length<=1000000000):ia3 l p=bey l p:=by unfold ia3;rw[Td3 l p hl];rfl
theorem df9(l:List V3)(p:Pln)(hl:l.length<=1000000000):ia4 l p=true:=by unfold ia4;rw[Td3 l p hl];rfl
theorem Td4{α:Type}(t:Ty α)(l:List α){j k:Nat}(h:k<j):gL t (l.take j) k=gL t l k:=by
 simp[gL,Qda,Qap,h]
theorem ef0(l:List V3)(i j:Nat)(hi:i<l.length)(hj:j<i)(hl:l.length<=1000000) :
  lp (T2 ⟨(i:Int),(j:Int),(l.length:Int),(i:Int),(i:Int),(j:Int),(j:Int),l,l⟩) ⟨0⟩ =
   if (l.take j).any (λv=>(G7 v (gL tV l j) (gL tV l i)).2) then (1,⟨((l.take j).findIdx (λv=>(G7 v (gL tV l j) (gL tV l i)).2):Nat)⟩) else (2,⟨(j:Int)⟩):=by
 have hlen:(l.take j).length=j:=by rw[Qie];omega
 have h:=ga1 (step:=T2 ⟨(i:Int),(j:Int),(l.length:Int),(i:Int),(i:Int),(j:Int),(j:Int),l,l⟩) (mk:=λk=>(⟨(k:Int)⟩:L4)) (c:=λv=>(G7 v (gL tV l j) (gL tV l i)).2) (u:=1) (fin:=2) tV (l.take j) (by omega)
  (λk hk=>by
   rw[hlen] at hk;simp only[T2,Wa9,Int.toNat_natCast,ec3,Ic2,Td4 tV l hk,g8,i5,Ge8 l _ (show l.length<=1000000000 by omega),m8 hk (by omega)]
   rw[btD (l0 hk),bt (f7 (by omega)),bt (f7 (by omega)),bt (f7 hi),f0]
   cases (G7 (gL tV l k) (gL tV l j) (gL tV l i)).2<;>rfl)
  (by rw[hlen];simp only[T2,Wa9];rw[bfD (k9 (Qia _))]) 0 (Qbw _)
 rw[Qih,hlen] at h;rw[show (⟨0⟩:L4)=⟨((0:Nat):Int)⟩ from rfl,h]
 split
 ·simp only[Qar]
 ·rfl
def ixs(n:Nat):List Int:=(List.range n).map λk:Nat=>(k:Int)
theorem xb6(n:Nat):(ixs n).length=n:=by simp[ixs]
theorem Ge9{n k:Nat}(h:k<n):gL tI (ixs n) k=(k:Int):=by
 simp[gL,ixs,Qda,Qbe,List.getElem?_range h]
def sp2(l:List V3)(i:Nat)(m:Int):Bool:=(l.take m.toNat).any λv=>(G7 v (gL tV l m.toNat) (gL tV l i)).2
theorem ef1(l:List V3)(i:Nat)(hi:i<l.length)(hl:l.length<=1000000) :
  lp (aa5 ⟨(i:Int),(l.length:Int),(i:Int),(i:Int)⟩) ⟨0,l,l⟩=if (ixs i).any (sp2 l i) then (1,⟨((ixs i).findIdx (sp2 l i):Nat),l,l⟩) else (2,⟨(i:Int),l,l⟩):=by
 have h:=ga1 (step:=aa5 ⟨(i:Int),(l.length:Int),(i:Int),(i:Int)⟩) (mk:=λj=>(⟨(j:Int),l,l⟩:O7)) (c:=sp2 l i) (u:=1) (fin:=2) tI (ixs i) (by rw[xb6];omega)
  (λj hj=>by
   rw[xb6] at hj;simp only[aa5,Xa0,Int.toNat_natCast,Nat.sub_zero,g8,i5,ef0 l i j hi hj hl,m8 hj (by omega),Ge9 hj]
   rw[btD (l0 hj),bt (f7 (by omega))]
   unfold sp2;simp only[Int.toNat_natCast];cases ((l.take j).any λv=>(G7 v (gL tV l j) (gL tV l i)).2)<;>rfl)
  (by rw[xb6];simp only[aa5,Xa0];rw[bfD (k9 (Qia _))]) 0 (Qbw _)
 rw[Qih,xb6] at h;rw[show (⟨0,l,l⟩:O7)=⟨((0:Nat):Int),l,l⟩ from rfl,h]
 split
 ·simp only[Qar]
 ·rfl
def sp1(l:List V3)(m:Int):Bool:=(ixs m.toNat).any (sp2 l m.toNat)
theorem Gf3(l:List V3)(hl:l.length<=1000000) :
  lp (xa0 ⟨(l.length:Int)⟩) ⟨0,l,l⟩=if (ixs l.length).any (sp1 l) then (1,⟨((ixs l.length).findIdx (sp1 l):Nat),l,l⟩) else (2,⟨(l.length:Int),l,l⟩):=by
 have h:=ga1 (step:=xa0 ⟨(l.length:Int)⟩) (mk:=λj=>(⟨(j:Int),l,l⟩:Y8)) (c:=sp1 l) (u:=1) (fin:=2) tI (ixs l.length) (by rw[xb6];omega)
  (λi hi=>by
   rw[xb6] at hi;simp only[xa0,Xa1,Int.toNat_natCast,Nat.sub_zero,g8,i5,ef1 l i hi hl,m8 hi (by omega),Ge9 hi]
   rw[btD (l0 hi),bt (f7 (by omega))]
   unfold sp1;simp only[Int.toNat_natCast];cases (ixs i).any (sp2 l i)<;>rfl)
  (by rw[xb6];simp only[xa0,Xa1];rw[bfD (k9 (Qia _))]) 0 (Qbw _)
 rw[Qih,xb6] at h;rw[show (⟨0,l,l⟩:Y8)=⟨((0:Nat):Int),l,l⟩ from rfl,h]
 split
 ·simp only[Qar]
 ·rfl
theorem be4{α:Type}{l:List α}{c:α->Bool}(h:l.any c=true):l.findIdx c<l.length:=by
 obtain⟨x,h1,h2⟩:=Qic.1 h;exact Qjg ⟨x,h1,h2⟩
theorem xc4{n:Nat}{c:Int->Bool}(h:(ixs n).any c=true):(ixs n).findIdx c<n/\c ((ixs n).findIdx c:Nat)=true:=by
 have hlt:=be4 h;have h1:=Qjc (xs:=ixs n) (p:=c) (w:=hlt);rw[xb6] at hlt;refine⟨hlt,?_⟩;simpa [ixs] using h1
def iF(l:List V3):Nat:=(ixs l.length).findIdx (sp1 l)
def jF(l:List V3):Nat:=(ixs (iF l)).findIdx (sp2 l (iF l))
def kF(l:List V3):Nat:=(l.take (jF l)).findIdx (λv=>(G7 v (gL tV l (jF l)) (gL tV l (iF l))).2)
def plF(l:List V3):Pln:=(G7 (gL tV l (kF l)) (gL tV l (jF l)) (gL tV l (iF l))).1
def rc6(l:List V3):Bool:=if (ixs l.length).any (sp1 l) then !(l.any λv=>P8 (plF l) v != 0) else true
theorem oe1(l:List V3)(hl:l.length<=1000000):nb6 l=some (b (rc6 l),[]):=by
 unfold nb6 rc6;simp only[g8,i5];rw[Gf3 l hl];by_cases h:(ixs l.length).any (sp1 l)=true
 ·obtain⟨hi,h1⟩:=xc4 h;have h1:(ixs (iF l)).any (sp2 l (iF l))=true:=h1;obtain⟨hj,h2⟩:=xc4 h1;have h2:(l.take (jF l)).any (λv=>(G7 v (gL tV l (jF l)) (gL tV l (iF l))).2)=true:=h2
  rw[if_pos h,if_pos h];simp only[Int.toNat_natCast,Nat.sub_zero];rw[show (ixs l.length).findIdx (sp1 l)=iF l from rfl,ef1 l (iF l) hi hl,if_pos h1]
  simp only[Int.toNat_natCast,Nat.sub_zero];rw[show (ixs (iF l)).findIdx (sp2 l (iF l))=jF l from rfl,ef0 l (iF l) (jF l) hi hj hl,if_pos h2]
  simp only[Int.toNat_natCast,ec3];rw[show (l.take (jF l)).findIdx (λv=>(G7 v (gL tV l (jF l)) (gL tV l (iF l))).2)=kF l from rfl,show (G7 (gL tV l (kF l)) (gL tV l (jF l)) (gL tV l (iF l))).1=plF l from rfl,Ge8 l _ (by omega)]
  rfl
 ·rw[if_neg h,if_neg h];rfl
theorem rf1(l:List V3)(hl:l.length<=1000000):Lb7 l=rc6 l:=by unfold Lb7;rw[oe1 l hl];rfl
theorem rf2(l:List V3)(hl:l.length<=1000000):Lb8 l=true:=by unfold Lb8;rw[oe1 l hl];rfl
theorem Td5(v:V3):Ka5 v=some (b (!inV v),[]):=by
 unfold Ka5;simp only[(Rb3 v).1,(Rb3 v).2,f0]
theorem ef2(v:V3):db9 v=!inV v:=by unfold db9;rw[Td5];rfl
theorem ef3(v:V3):eb0 v=true:=by unfold eb0;rw[Td5];rfl
theorem rf3(l:List V3)(hl:l.length<=1000000000):ca1 ⟨l⟩=⟨1,if l.any (λv=>!inV v) then ((l.findIdx (λv=>!inV v):Nat):Int) else -1⟩:=by
 have h:=ga1 (step:=K1 ⟨l,(l.length:Int)⟩) (mk:=λj=>(⟨(j:Int)⟩:fa7)) (c:=λv=>!inV v) (u:=1) (fin:=2) tV l hl
  (λj hj=>by
   simp only[K1,R5,Int.toNat_natCast,ef2,ef3,m8 hj (by omega)]
   rw[bt (La0 hj),bt (f7 hj),f0])
  (by simp only[K1,R5];rw[bf (sa3 (Qia _))]) 0 (Qbw _)
 rw[Qih] at h;unfold ca1 xa6;simp only[g8,i5];rw[show (⟨0⟩:fa7)=⟨((0:Nat):Int)⟩ from rfl,h]
 split
 ·simp only[Qar];rfl
 ·rfl
theorem rf4(l:List V3)(hl:l.length<=1000000000):T4 ⟨l⟩=⟨1,l.any λv=>!inV v⟩:=by
 unfold T4 la6;simp only[g8,i5,rf3 l hl];split
 ·rename_i h;rw[h,show decide (((l.findIdx (λv=>!inV v):Nat):Int)>=0)=true from decide_eq_true (by omega)];rfl
 ·rename_i h;rw[Qjf] at h;rw[h];rfl
def P9(l:List V3):Int:=if (l.length:Int)>48 then 2 else if l.any (λv=>!inV v) then 3 else if rc6 l then 11 else 0
theorem Td6(l:List V3)(hl:l.length<=1000000):eb1 l=some (i (P9 l),[]):=by
 unfold eb1 P9;simp only[g8,i5,B7,rf4 l (by omega),rf1 l hl,rf2 l hl]
 by_cases h:(l.length:Int)>48
 ·rw[btD h,if_pos h]
 ·rw[bfD h,if_neg h];cases l.any λv=>!inV v with
  |true=>rfl
  |false=>cases rc6 l<;>rfl
theorem Rc3(l:List V3)(hl:l.length<=1000000):Ca1 l=P9 l:=by unfold Ca1;rw[Td6 l hl];rfl
theorem Rc4(l:List V3)(hl:l.length<=1000000):Ca2 l=true:=by unfold Ca2;rw[Td6 l hl];rfl
theorem ef4{p:Pln}(h:Bd p):Oa8 p=ua8 p:=by
 unfold Oa8 Ka0 ua8
 simp only
 have:=h.x1;have:=h.x2;have:=h.y1;have:=h.y2;have:=h.z1;have:=h.z2;have:=h.b1;have:=h.b2
 rw[eb6 (by omega) (by omega),eb6 (by omega) (by omega),eb6 (by omega) (by omega),eb6 (by omega) (by omega)]
 simp only[Int.zero_sub]
def be5(p:Pln):List a7:=[i p.n.x,i p.n.y,i p.n.z,i p.b,b true]
def Mb7(l:PLq):List (List a7):=l.map be5
theorem Td7(x q:Pln):yc3 flK [i x.n.x,i x.n.y,i x.n.z,i x.b] (be5 q)=eqP q x:=by
 show Bool.and (decide (x.n.x=q.n.x)) (Bool.and (decide (x.n.y=q.n.y)) (Bool.and (decide (x.n.z=q.n.z)) (Bool.and (decide (x.b=q.b)) true)))=_;unfold eqP;have h:∀a c:Int,decide (a=c)=(c==a):=λa c=>by rw[Bool.eq_iff_iff,decide_eq_true_eq,beq_iff_eq];exact eq_comm
 rw[h,h,h,h]
theorem oe2(x:Pln):∀l,Ub6 4 [(0,.int .i64),(1,.int .i64),(2,.int .i64),(3,.int .i64)] [i x.n.x,i x.n.y,i x.n.z,i x.b] (Mb7 l)=Qc3 l x
 |[]=>rfl
 |q::l=>by
  have ih:=oe2 x l;unfold Ub6 at ih ⊢;show Option.rec (motive:=λ_=>Bool) false (λr=>toB (hdA (i9 r 4))) (Bool.rec (motive:=λ_=>Option (List a7)) (fd1 flK [i x.n.x,i x.n.y,i x.n.z,i x.b] (Mb7 l)) (some (be5 q)) (yc3 flK [i x.n.x,i x.n.y,i x.n.z,i x.b] (be5 q)))=Qc3 (q::l) x
  rw[Td7];unfold Qc3 at ih ⊢;rw[List.any_cons];cases eqP q x with
  |true=>rfl
  |false=>exact ih
theorem ze3(x:Pln):∀l,Qc3 l x=false->qb1 [(0,.int .i64),(1,.int .i64),(2,.int .i64),(3,.int .i64)] [i x.n.x,i x.n.y,i x.n.z,i x.b] [i x.n.x,i x.n.y,i x.n.z,i x.b,b true] (Mb7 l)=Mb7 (l++[x])
 |[],_=>rfl
 |q::l,h=>by
  unfold Qc3 at h;rw[List.any_cons,Bool.or_eq_false_iff] at h;show Bool.rec (motive:=λ_=>List (List a7)) (be5 q::qb1 flK [i x.n.x,i x.n.y,i x.n.z,i x.b] (be5 x) (Mb7 l)) (be5 x::Mb7 l) (yc3 flK [i x.n.x,i x.n.y,i x.n.z,i x.b] (be5 q))=_
  rw[Td7,h.1,show qb1 flK [i x.n.x,i x.n.y,i x.n.z,i x.b] (be5 x) (Mb7 l)=_ from ze3 x l h.2]
  rfl
def Ic3(s:PLq)(p:Pln):PLq:=if Qc3 s p then s else s++[p]
theorem ef5(s:PLq)(p q:Pln):q∈Ic3 s p↔q∈s\/q=p:=by
 unfold Ic3;split
 ·rename_i h;rw[ne2] at h;exact⟨.inl,λh'=>h'.elim id λe=>e ▸ h⟩
 ·rw[List.mem_append,Qjq]
theorem Fd7{s:PLq}{p:Pln}(h:s.Nodup):(Ic3 s p).Nodup:=by
 unfold Ic3;split
 ·exact h
 ·rename_i hn;rw[ne2] at hn;rw[List.nodup_append];exact⟨h,by simp,λa ha b hb=>by rw[Qjq.1 hb];intro e;exact hn (e ▸ ha)⟩
theorem oe3(s:PLq)(p:Pln):(Ic3 s p).length<=s.length+1:=by
 unfold Ic3;split
 ·omega
 ·simp
def fil(l:List V3)(s:PLq):PLq:=s.filter λp=>!bey l p
theorem sd1(l:List V3)(s:PLq)(p:Pln):fil l (s++[p])=if bey l p then fil l s else fil l s++[p]:=by
 unfold fil;rw[Qja,Qjd,List.filter_nil];cases bey l p<;>simp
theorem be6(l:List V3)(s:PLq):(fil l s).length<=s.length:=Qjh _ _
def Cc4(l:List V3)(a c:Nat)(s:PLq)(k:Nat):PLq :=
 if (G7 (gL tV l k) (gL tV l c) (gL tV l a)).2 then Ic3 (Ic3 s (G7 (gL tV l k) (gL tV l c) (gL tV l a)).1) (ua8 (G7 (gL tV l k) (gL tV l c) (gL tV l a)).1) else s
def G2(l:List V3)(a:Nat)(s:PLq)(c:Nat):PLq:=(List.range c).foldl (Cc4 l a c) s
def G1(l:List V3)(s:PLq)(a:Nat):PLq:=(List.range a).foldl (G2 l a) s
def G0(l:List V3):PLq:=(List.range l.length).foldl (G1 l) []
theorem Td8(l:List V3)(a c:Nat)(s:PLq)(k:Nat):(Cc4 l a c s k).length<=s.length+2:=by
 unfold Cc4;split
 ·have h1:=oe3 (Ic3 s (G7 (gL tV l k) (gL tV l c) (gL tV l a)).1) (ua8 (G7 (gL tV l k) (gL tV l c) (gL tV l a)).1);have h2:=oe3 s (G7 (gL tV l k) (gL tV l c) (gL tV l a)).1;omega
 ·omega
theorem Gf4(l:List V3)(a:Nat)(s:PLq)(c:Nat):(G2 l a s c).length<=s.length+2*c:=Xb9 (Td8 l a c) s c
theorem ze4(l:List V3)(a:Nat)(s:PLq):∀j,j<=a->a<=48->((List.range j).foldl (G2 l a) s).length<=s.length+96*j
 |0,_,_=>Qaf _
 |j+1,h,ha=>by
  rw[o8];have h1:=ze4 l a s j (by omega) ha
  have h2:=Gf4 l a ((List.range j).foldl (G2 l a) s) j;omega
theorem be7(l:List V3)(hl:l.length<=48):∀j,j<=l.length->((List.range j).foldl (G1 l) []).length<=5000*j
 |0,_=>Qaf _
 |j+1,h=>by
  rw[o8];have h1:=be7 l hl j (by omega)
  have h2:(G1 l ((List.range j).foldl (G1 l) []) j).length<=_:=ze4 l j ((List.range j).foldl (G1 l) []) j (Qaf _) (by omega)
  omega
@[reducible] noncomputable def mkf(l:List V3)(k:Nat)(s:PLq):D7:=⟨phP (fil l s),(k:Int),Mb7 s,(fil l s).length,bL tP (fil l s)⟩
theorem cd3{n:Nat}{l:PLq}(hn:n=l.length)(h:l.length<=1000000000):(Nat.beq n (len (bL tP l))&&Nat.ble ((n+1)*32) room)=true:=by
 subst hn;rw[Ba4,Qij,Bool.true_and];exact xb1 (by omega)
theorem He0(o:PLq)(x:Pln):phP (o++[x])=1:=by cases o<;>rfl
theorem ef6(l:List V3)(hl:l.length<=48)(a c k:Nat)(ha:a<l.length)(hc:c<a)(hk:k<c)(x1 x2 x3 x4:Int)(s:PLq)(ho:s.length<=900000) :
  V9 ⟨(a:Int),(c:Int),x1,x2,x3,x4,(c:Int),l,l⟩ (mkf l k s)=.next (mkf l (k+1) (Cc4 l a c s k)):=by
 have hfl:Oa8 (G7 (gL tV l k) (gL tV l c) (gL tV l a)).1=ua8 (G7 (gL tV l k) (gL tV l c) (gL tV l a)).1:=ef4 (Ge1 _ _ _);have hb:∀p,ia3 l p=bey l p:=λp=>df8 l p (by omega)
 have hg:∀p,ia4 l p=true:=λp=>df9 l p (by omega)
 have hn:=m8 hk (show c<=4611686018427387904 by omega)
 have b1:inB (a:Int) l.length=true:=f7 ha;have b2:inB (c:Int) l.length=true:=f7 (by omega)
 have b3:inB (k:Int) l.length=true:=f7 (by omega)
 have hfl2:=be6 l s;unfold Cc4;unfold mkf;generalize hT:G7 (gL tV l k) (gL tV l c) (gL tV l a)=T at *
 cases hO:fil l s with
 |nil =>
  show ia7 Stp.next Stp.exit Stp.fail _ _=_;simp only[ia7,ec3,Ic2,Int.toNat_natCast,g8,B7,hT,hfl,hb,hg,hn,b1,b2,b3,oe2];rw[btD (l0 hk)];cases h2:T.2 with
  |false=>simp only[Qhc,if_false,hO];rfl
  |true =>
   simp only[if_true,f0];cases h3:Qc3 s T.1 with
   |true =>
    cases h4:Qc3 s (ua8 T.1) with
    |true=>simp only[Ic3,h3,h4,if_true,hO];rfl
    |false =>
     rw[ze3 _ _ h4];cases h5:bey l (ua8 T.1)<;>(simp only[Ic3,h3,h4,h5,if_true,if_false,Qhc,sd1,hO];rfl)
   |false =>
    simp only[ze3 _ _ h3,oe2];cases h5:bey l T.1<;>cases h4:Qc3 (s++[T.1]) (ua8 T.1)<;>(try simp only[ze3 _ _ h4])<;>cases h6:bey l (ua8 T.1)<;>(simp only[Ic3,h3,h4,h5,h6,if_true,if_false,Qhc,sd1,hO];rfl)
 |cons q o =>
  have rr:(Nat.beq (q::o).length (len (bL tP (q::o)))&&Nat.ble (((q::o).length+1)*32) room)=true:=cd3 rfl (by rw[<- hO];omega)
  have ap:∀(O:PLq) (p:Pln),app (bL tP O) [[i p.n.x,i p.n.y,i p.n.z,i p.b]]=bL tP (O++[p]):=λO p=>cb5 tP O [p]
  have rr2:∀p:Pln,(Nat.beq ((q::o).length+1) (len (bL tP (q::o++[p])))&&Nat.ble (((q::o).length+1+1)*32) room)=true:=λp=>cd3 (by simp) (by rw[<- hO,Qdc,List.length_singleton];omega)
  show ia8 Stp.next Stp.exit Stp.fail _ _=_;simp only[ia8,ec3,Ic2,Int.toNat_natCast,g8,B7,hT,hfl,hb,hg,hn,b1,b2,b3,oe2,rr,ap,rr2];rw[btD (l0 hk)];cases h2:T.2 with
  |false=>simp only[Qhc,if_false,hO];rfl
  |true =>
   simp only[if_true,f0];cases h3:Qc3 s T.1 with
   |true =>
    cases h4:Qc3 s (ua8 T.1) with
    |true=>simp only[Ic3,h3,h4,if_true,hO];rfl
    |false =>
     rw[ze3 _ _ h4];cases h5:bey l (ua8 T.1)<;>(simp only[Ic3,h3,h4,h5,if_true,if_false,Qhc,sd1,hO,He0,Qdc,List.length_singleton];rfl)
   |false =>
    simp only[ze3 _ _ h3,oe2];cases h5:bey l T.1<;>cases h4:Qc3 (s++[T.1]) (ua8 T.1)<;>(try simp only[ze3 _ _ h4])<;>cases h6:bey l (ua8 T.1)<;>(simp only[Ic3,h3,h4,h5,h6,if_true,if_false,Qhc,sd1,hO,He0,Qdc,List.length_singleton];rfl)
theorem Gf5(l:List V3)(hl:l.length<=48)(a c:Nat)(ha:a<l.length)(hc:c<a)(x1 x2 x3 x4:Int)(s:PLq)(ho:s.length<=800000) :
  ∃j,lp (V9 ⟨(a:Int),(c:Int),x1,x2,x3,x4,(c:Int),l,l⟩) (mkf l 0 s)=(phP (fil l (G2 l a s c))+1,mkf l j (G2 l a s c)):=by
 have key:=ga3 (step:=V9 ⟨(a:Int),(c:Int),x1,x2,x3,x4,(c:Int),l,l⟩) (mk:=mkf l) c (λj o=>j<=c/\o=(List.range j).foldl (Cc4 l a c) s) (λt r=>t=phP (fil l (G2 l a s c))+1/\∃j:Nat,r=mkf l j (G2 l a s c)) (by omega)
  (λj o hj hi=>by
   obtain⟨_,hi⟩:=hi;have hlen:o.length<=900000:=by
    rw[hi]
    have:=Xb9 (Td8 l a c) s j
    omega
   rw[ef6 l hl a c j ha hc hj x1 x2 x3 x4 o hlen];exact .nx ⟨_,rfl,by omega,by rw[o8,<- hi]⟩)
  (λj o hj hi=>by
   obtain⟨h1,hi⟩:=hi;have e:j=c:=by omega
   subst e;have hF:o=G2 l a s j:=hi;rw[<- hF];refine⟨_,?_,rfl,j,rfl⟩;unfold mkf;cases hO:fil l o with
   |nil =>
    show ia7 Stp.next Stp.exit Stp.fail _ _=_;simp only[ia7];rw[bfD (k9 (Qia _))];rfl
   |cons q o =>
    show ia8 Stp.next Stp.exit Stp.fail _ _=_;simp only[ia8];rw[bfD (k9 (Qia _))]
    rfl) 0 s ⟨Qbw _,rfl⟩
 obtain⟨t,r,h1,rfl,j,rfl⟩:=key;exact⟨j,h1⟩
@[reducible] noncomputable def Fd8(l:List V3)(k:Nat)(s:PLq):D0:=⟨phP (fil l s),(k:Int),l,l,Mb7 s,(fil l s).length,bL tP (fil l s)⟩
theorem Gf6(l:List V3)(hl:l.length<=48)(a:Nat)(ha:a<l.length)(x1 x2:Int)(s:PLq)(ho:s.length<=700000) :
  ∃j,lp (ea6 ⟨(a:Int),x1,x2,(a:Int)⟩) (Fd8 l 0 s)=(phP (fil l (G1 l s a))+1,Fd8 l j (G1 l s a)):=by
 have key:=ga3 (step:=ea6 ⟨(a:Int),x1,x2,(a:Int)⟩) (mk:=Fd8 l) a (λj o=>j<=a/\o=(List.range j).foldl (G2 l a) s) (λt r=>t=phP (fil l (G1 l s a))+1/\∃j:Nat,r=Fd8 l j (G1 l s a)) (by omega)
  (λj o hj hi=>by
   obtain⟨hja,hi⟩:=hi;have hlen:o.length<=800000:=by rw[hi];have:=ze4 l a s j hja (by omega);omega
   have hn:=m8 hj (show a<=4611686018427387904 by omega)
   have bj:inB (j:Int) (l.length+1)=true:=f7 (by omega)
   obtain⟨j',e1⟩:=Gf5 l hl a j ha hj x1 x2 (a:Int) (j:Int) o hlen
   have fin : ∀ {r : D0}, r = Fd8 l (j + 1) (G2 l a o j) → Nx (.next r) (fun t => t = phP (fil l (G1 l s a)) + 1 ∧ ∃ j' : Nat, Fd8 l j o = Fd8 l j' (G1 l s a))
     (λr=>∃o',r=Fd8 l (j+1) o'/\(j+1<=a/\o'=(List.range (j+1)).foldl (G2 l a) s)):=λ{r} hs =>
    .nx ⟨_,hs,by omega,by rw[o8,<- hi]⟩
   clear hi
   generalize hF:G2 l a o j=R at *
   unfold Fd8 at *
   unfold mkf at e1;cases hO:fil l o with
   |nil =>
    rw[hO] at e1 fin;show Nx (ia9 Stp.next Stp.exit Stp.fail _ _) _ _;simp only[ia9,g8,i5,hn,bj,Int.toNat_natCast,Nat.sub_zero];have e1:lp (V9 ⟨(a:Int),(j:Int),x1,x2,(a:Int),(j:Int),(j:Int),l,l⟩) ⟨0,0,Mb7 o,0,[]⟩=_:=e1;rw[btD (l0 hj),e1];cases hR:fil l R with
    |nil=>exact fin (by rw[hR];rfl)
    |cons q R'=>exact fin (by rw[hR];rfl)
   |cons q o' =>
    rw[hO] at e1 fin;show Nx (ja0 Stp.next Stp.exit Stp.fail _ _) _ _;simp only[ja0,g8,i5,hn,bj,Int.toNat_natCast,Nat.sub_zero];have e1:lp (V9 ⟨(a:Int),(j:Int),x1,x2,(a:Int),(j:Int),(j:Int),l,l⟩) ⟨1,0,Mb7 o,(q::o').length,bL tP (q::o')⟩=_:=e1;rw[btD (l0 hj),e1];cases hR:fil l R with
    |nil=>exact fin (by rw[hR];rfl)
    |cons q R'=>exact fin (by rw[hR];rfl))
  (λj o hj hi=>by
   obtain⟨h1,hi⟩:=hi;have e:j=a:=by omega
   subst e;have hF:o=G1 l s j:=hi;rw[<- hF];refine⟨_,?_,rfl,j,rfl⟩;unfold Fd8;cases hO:fil l o with
   |nil =>
    show ia9 Stp.next Stp.exit Stp.fail _ _=_;simp only[ia9];rw[bfD (k9 (Qia _))];rfl
   |cons q o =>
    show ja0 Stp.next Stp.exit Stp.fail _ _=_;simp only[ja0];rw[bfD (k9 (Qia _))]
    rfl) 0 s ⟨Qbw _,rfl⟩
 obtain⟨t,r,h1,rfl,j,rfl⟩:=key;exact⟨j,h1⟩
@[reducible] noncomputable def be8(l:List V3)(k:Nat)(s:PLq):D8:=⟨phP (fil l s),(k:Int),l,l,Mb7 s,(fil l s).length,bL tP (fil l s)⟩
theorem Gf7(l:List V3)(hl:l.length<=48) :
  ∃j,lp (Xa4 ⟨(l.length:Int)⟩) ⟨0,0,l,l,[],0,[]⟩=(phP (fil l (G0 l))+1,be8 l j (G0 l)):=by
 have key:=ga3 (step:=Xa4 ⟨(l.length:Int)⟩) (mk:=be8 l) l.length (λj o=>j<=l.length/\o=(List.range j).foldl (G1 l) []) (λt r=>t=phP (fil l (G0 l))+1/\∃j:Nat,r=be8 l j (G0 l)) (by omega)
  (λj o hj hi=>by
   obtain⟨hja,hi⟩:=hi;have hlen:o.length<=700000:=by rw[hi];have:=be7 l hl j hja;omega
   have hn:=m8 hj (show l.length<=4611686018427387904 by omega)
   have bj:inB (j:Int) (l.length+1)=true:=f7 (by omega)
   obtain⟨j',e1⟩:=Gf6 l hl j hj (l.length:Int) (j:Int) o hlen
   have fin : ∀ {r : D8}, r = be8 l (j + 1) (G1 l o j) → Nx (.next r) (fun t => t = phP (fil l (G0 l)) + 1 ∧ ∃ j' : Nat, be8 l j o = be8 l j' (G0 l))
     (λr=>∃o',r=be8 l (j+1) o'/\(j+1<=l.length/\o'=(List.range (j+1)).foldl (G1 l) [])):=λ{r} hs =>
    .nx ⟨_,hs,by omega,by rw[o8,<- hi]⟩
   clear hi
   generalize hF:G1 l o j=R at *
   unfold be8 at *
   unfold Fd8 at e1;cases hO:fil l o with
   |nil =>
    rw[hO] at e1 fin;show Nx (ja1 Stp.next Stp.exit Stp.fail _ _) _ _;simp only[ja1,g8,i5,hn,bj,Int.toNat_natCast,Nat.sub_zero];have e1:lp (ea6 ⟨(j:Int),(l.length:Int),(j:Int),(j:Int)⟩) ⟨0,0,l,l,Mb7 o,0,[]⟩=_:=e1;rw[btD (l0 hj),e1];cases hR:fil l R with
    |nil=>exact fin (by rw[hR];rfl)
    |cons q R'=>exact fin (by rw[hR];rfl)
   |cons q o' =>
    rw[hO] at e1 fin;show Nx (ja2 Stp.next Stp.exit Stp.fail _ _) _ _;simp only[ja2,g8,i5,hn,bj,Int.toNat_natCast,Nat.sub_zero];have e1:lp (ea6 ⟨(j:Int),(l.length:Int),(j:Int),(j:Int)⟩) ⟨1,0,l,l,Mb7 o,(q::o').length,bL tP (q::o')⟩=_:=e1;rw[btD (l0 hj),e1];cases hR:fil l R with
    |nil=>exact fin (by rw[hR];rfl)
    |cons q R'=>exact fin (by rw[hR];rfl))
  (λj o hj hi=>by
   obtain⟨h1,hi⟩:=hi;have e:j=l.length:=by omega
   subst e;have hF:o=G0 l:=hi;rw[<- hF];refine⟨_,?_,rfl,l.length,rfl⟩;unfold be8;cases hO:fil l o with
   |nil =>
    show ja1 Stp.next Stp.exit Stp.fail _ _=_;simp only[ja1];rw[bfD (k9 (Qia _))];rfl
   |cons q o =>
    show ja2 Stp.next Stp.exit Stp.fail _ _=_;simp only[ja2];rw[bfD (k9 (Qia _))]
    rfl) 0 [] ⟨Qbw _,rfl⟩
 obtain⟨t,r,h1,rfl,j,rfl⟩:=key;exact⟨j,h1⟩
theorem ze5{F:PLq}(h:∀p∈F,okp p=true){k:Nat}(hk:k<F.length):Bd (gL tP F k):=Ed6 (h _ (Ga7 tP hk))
theorem rf5{n:V3}{r:Pln}(hn:Sm 42467328 n.x/\Sm 42467328 n.y/\Sm 42467328 n.z)(hr:Bd r):V8 n r.n=dot n r.n:=by
 obtain⟨⟨a1,a2⟩,⟨a3,a4⟩,a5,a6⟩:=hn;have r1:=mb a1 a2 hr.x1 hr.x2;have r2:=mb a3 a4 hr.y1 hr.y2;have r3:=mb a5 a6 hr.z1 hr.z2;unfold V8;simp only[Hc7,Zc3];rw[eb6 (by omega) (by omega)]
 rfl
theorem rf6(l:PLq)(n:V3)(hn:Sm 42467328 n.x/\Sm 42467328 n.y/\Sm 42467328 n.z)(hF:∀p∈l,okp p=true)(hl:l.length<=1000000000) :
  X0 ⟨l,n.x,n.y,n.z⟩=⟨1,if l.any (λr=>dot n r.n != 0) then ((l.findIdx (λr=>dot n r.n != 0):Nat):Int) else -1⟩:=by
 have h:=ga1 (step:=F7 ⟨l,(l.length:Int),n.x,n.y,n.z⟩) (mk:=λj=>(⟨(j:Int)⟩:fa7)) (c:=λr=>dot n r.n != 0) (u:=1) (fin:=2) tP l hl
  (λj hj=>by
   have e:=rf5 hn (ze5 hF hj);simp only[F7,N9,Int.toNat_natCast,sb1,sb0,e,m8 hj (show l.length<=4611686018427387904 by omega)]
   rw[btD (l0 hj),bt (f7 hj)])
  (by simp only[F7,N9];rw[bfD (k9 (Qia _))]) 0 (Qbw _)
 rw[Qih] at h;unfold X0 oa6;simp only[g8,i5];rw[show (⟨0⟩:fa7)=⟨((0:Nat):Int)⟩ from rfl,h]
 split
 ·simp only[Qar];rfl
 ·rfl
theorem rf7(l:PLq)(n:V3)(hn:Sm 42467328 n.x/\Sm 42467328 n.y/\Sm 42467328 n.z)(hF:∀p∈l,okp p=true)(hl:l.length<=1000000000) :
  P2 ⟨l,n.x,n.y,n.z⟩=⟨1,l.any λr=>dot n r.n != 0⟩:=by
 unfold P2 ea9;simp only[g8,i5,rf6 l n hn hF hl];split
 ·rename_i h;rw[h,show decide (((l.findIdx (λr=>dot n r.n != 0):Nat):Int)>=0)=true from decide_eq_true (by omega)];rfl
 ·rename_i h;rw[Qjf] at h;rw[h];rfl
def Pe9(l:PLq)(a c:Nat):Bool:=l.any λr=>dot (d7 (gL tP l a).n (gL tP l c).n) r.n != 0
def vtx(l:PLq):Bool:=(List.range l.length).any λa=>(List.range a).any (Pe9 l a)
theorem Qe0{p q:Pln}(hp:Bd p)(hq:Bd q):ha8 p.n q.n=d7 p.n q.n/\Sm 42467328 (d7 p.n q.n).x/\Sm 42467328 (d7 p.n q.n).y/\Sm 42467328 (d7 p.n q.n).z:=by
 obtain⟨k1,k2,k3⟩:=me2 hp.n hq.n;refine⟨?_,k1,k2,k3⟩;rw[of3,qc9 (k1.mono (by omega)),qc9 (k2.mono (by omega)),qc9 (k3.mono (by omega))]
theorem ze6(l:PLq)(hF:∀p∈l,okp p=true)(hl:l.length<=1000000)(a:Nat)(ha:a<l.length)(x9 x10:Int) :
  ∃j,lp (ja3 ⟨l,l,x9,x10,a,(λk=>(λk=>tP.row (gL tP l k)) (0+k)),(a:Int),(gL tP l a).n.x,(gL tP l a).n.y,(gL tP l a).n.z,(gL tP l a).b⟩) ⟨0⟩=(if (List.range a).any (Pe9 l a) then 1 else 2,⟨((j:Nat):Int)⟩) :=
 sb9 (step:=ja3 ⟨l,l,x9,x10,a,(λk=>(λk=>tP.row (gL tP l k)) (0+k)),(a:Int),(gL tP l a).n.x,(gL tP l a).n.y,(gL tP l a).n.z,(gL tP l a).b⟩) (mk:=λj=>(⟨(j:Int)⟩:W0)) a (Pe9 l a) 1 2 (by omega)
  (λj hj=>by
   obtain⟨e,k1,k2,k3⟩:=Qe0 (ze5 hF ha) (ze5 hF (show j<l.length by omega))
   have rr:(⟨toI (hdA (tP.row (gL tP l j))),toI (hdA (tlA (tP.row (gL tP l j)))),toI (hdA (tlA (tlA (tP.row (gL tP l j)))))⟩:V3)=(gL tP l j).n:=rfl;have e':ha8 ⟨(gL tP l a).n.x,(gL tP l a).n.y,(gL tP l a).n.z⟩ (gL tP l j).n=d7 (gL tP l a).n (gL tP l j).n:=e;simp only[ja3,Ha5,Int.toNat_natCast,Qar,rr,e',Ef2,g8,i5,rf7 l _ ⟨k1,k2,k3⟩ hF (show l.length<=1000000000 by omega),m8 hj (show a<=4611686018427387904 by omega)]
   rw[btD (l0 hj),bt (f7 hj)];unfold Pe9;cases hz:((d7 (gL tP l a).n (gL tP l j).n).x==0&&((d7 (gL tP l a).n (gL tP l j).n).y==0&&((d7 (gL tP l a).n (gL tP l j).n).z==0&&true))) with
   |false=>rfl
   |true =>
    simp only[Qii,Qas,beq_iff_eq] at hz
    have:(l.any λr=>dot (d7 (gL tP l a).n (gL tP l j).n) r.n != 0)=false:=by
     rw[Qbq];intro r _
     have:dot (d7 (gL tP l a).n (gL tP l j).n) r.n=0:=by unfold dot;rw[hz.1,hz.2.1,hz.2.2];simp only[Qiq,Int.add_zero]
     rw[this]
     decide
    rw[this]
    rfl)
  (by simp only[ja3,Ha5];rw[bfD (k9 (Qia _))])
theorem Td9(l:PLq)(hF:∀p∈l,okp p=true)(hl:l.length<=1000000):Ta3 l=some (b (vtx l),[]):=by
 obtain⟨j,h⟩:=sb9 (step:=ja4 ⟨(l.length:Int)⟩) (mk:=λj=>(⟨l,l,(j:Int)⟩:W4)) l.length (λa=>(List.range a).any (Pe9 l a)) 1 2 (by omega)
  (λj hj=>by
   obtain⟨j',h1⟩:=ze6 l hF hl j hj (l.length:Int) (j:Int);simp only[ja4,Ha6,g8,i5,Int.toNat_natCast,Nat.sub_zero,m8 hj (show l.length<=4611686018427387904 by omega)]
   rw[btD (l0 hj),bt (f7 hj),bt (f7 (show j<l.length+1 by omega)),h1]
   cases (List.range j).any (Pe9 l j)<;>rfl)
  (by simp only[ja4,Ha6];rw[bfD (k9 (Qia _))])
 have h:lp (ja4 ⟨(l.length:Int)⟩) ⟨l,l,0⟩=(if vtx l then 1 else 2,⟨l,l,((j:Nat):Int)⟩):=h
 unfold Ta3;simp only[g8,i5];rw[h];cases vtx l<;>rfl
theorem oe4(l:PLq)(hF:∀p∈l,okp p=true)(hl:l.length<=1000000):Fa6 l=vtx l:=by unfold Fa6;rw[Td9 l hF hl];rfl
theorem oe5(l:PLq)(hF:∀p∈l,okp p=true)(hl:l.length<=1000000):Fa7 l=true:=by unfold Fa7;rw[Td9 l hF hl];rfl
theorem He1(l:PLq):vtx l=true↔∃p q s,p∈l/\q∈l/\s∈l/\mw p q s≠0:=by
 unfold vtx;rw[Qic];constructor
 ·rintro⟨a,ha,h⟩;obtain⟨c,hc,h⟩:=Qic.1 h;rw[Qca] at ha hc;obtain⟨r,hr,h⟩:=Qic.1 h;have h:dot (d7 (gL tP l a).n (gL tP l c).n) r.n≠0:=bne_iff_ne.1 h;exact⟨_,_,r,Ga7 tP ha,Ga7 tP (show c<l.length by omega),hr,λe=>h (by rw[<- e];simp only[mw,dot,d7];grind)⟩
 ·rintro⟨p,q,s,hp,hq,hs,hw⟩;obtain⟨i',hi,rfl⟩:=Qef.1 hp;obtain⟨j',hj,rfl⟩:=Qef.1 hq;have hne:i'≠j':=λe=>hw (by subst e;simp only[mw,dot,d7];grind)
  rw[<- Mb0 tP hi,<- Mb0 tP hj] at hw
  rcases Qit hne with h|h
  ·refine⟨j',Qca.2 hj,Qic.2 ⟨i',Qca.2 h,Qic.2 ⟨s,hs,?_⟩⟩⟩
   have:dot (d7 (gL tP l j').n (gL tP l i').n) s.n≠0:=λe=>hw (by
    rw[show mw (gL tP l i') (gL tP l j') s=-dot (d7 (gL tP l j').n (gL tP l i').n) s.n from by simp only[mw,dot,d7];grind,e]
    rfl)
   exact bne_iff_ne.2 this
  ·refine⟨i',Qca.2 hi,Qic.2 ⟨j',Qca.2 h,Qic.2 ⟨s,hs,?_⟩⟩⟩
   have:dot (d7 (gL tP l i').n (gL tP l j').n) s.n≠0:=λe=>hw (by rw[<- e];simp only[mw,dot,d7];grind)
   exact bne_iff_ne.2 this
structure OkF(F:PLq):Prop where
 l:F.length<=1000000
 v:∀p∈F,okp p=true
def own(F:PLq)(v:V3):PLq:=F.filter λp=>P8 p v==0
def kv(F:PLq)(v:V3):Bool:=vtx (own F v)
theorem Qe1(F:PLq)(v:V3)(hF:F.length<=1000000):∃j,lp (va2 ⟨F,(F.length:Int),F,v.x,v.y,v.z⟩) ⟨0,0,0,[]⟩=(phP (own F v)+1,⟨phP (own F v),((j:Nat):Int),(own F v).length,bL tP (own F v)⟩):=by
 have key:=ga3 (step:=va2 ⟨F,(F.length:Int),F,v.x,v.y,v.z⟩) (mk:=λj (o:PLq)=>(⟨phP o,(j:Int),o.length,bL tP o⟩:l5)) F.length (λj o=>j<=F.length/\o=(F.take j).filter λp=>P8 p v==0) (λt s=>t=phP (own F v)+1/\∃j:Nat,s=⟨phP (own F v),(j:Int),(own F v).length,bL tP (own F v)⟩) (by omega)
  (λj o hj hi=>by
   obtain⟨_,hi⟩:=hi;have hlen:o.length<=1000000:=by
    rw[hi];have h1:=Qjh (λp=>P8 p v==0) (F.take j)
    have h2:=List.length_take_le j F;omega
   have hn:=m8 hj (show F.length<=4611686018427387904 by omega)
   have hb:=f7 hj;have hT:(F.take (j+1)).filter (λp=>P8 p v==0)=o++(if (P8 (gL tP F j) v==0)=true then [gL tP F j] else []):=by
    rw[xc0 tP hj,Qja,<- hi,Qjd,List.filter_nil]
   have hnext : ∀ {s : l5} {o' : PLq}, o' = (F.take (j + 1)).filter (fun p => P8 p v == 0) → s = ⟨phP o', ((j + 1 : Nat) : Int), o'.length, bL tP o'⟩ → Nx (.next s) (fun t => t = phP (own F v) + 1 ∧ ∃ j' : Nat, (⟨phP o, (j : Int), o.length, bL tP o⟩ : l5) = ⟨phP (own F v), (j' : Int), (own F v).length, bL tP (own F v)⟩)
     (λs=>∃o',s=(⟨phP o',((j+1:Nat):Int),o'.length,bL tP o'⟩:l5)/\(j+1<=F.length/\o'=(F.take (j+1)).filter λp=>P8 p v==0)):=λ{s o'} ho' hs=>.nx ⟨o',hs,by omega,ho'⟩
   clear hi
   cases o with
   |nil =>
    show Nx (Q3 Stp.next Stp.exit Stp.fail _ _) _ _;simp only[Q3,Int.toNat_natCast,Rc1,Rc2,hn,hb];rw[btD (l0 hj)];cases hs:P8 (gL tP F j) v==0 with
    |true=>exact hnext (o':=[gL tP F j]) (by rw[hT,hs];rfl) rfl
    |false=>exact hnext (o':=[]) (by rw[hT,hs];rfl) rfl
   |cons q o =>
    have rr:(Nat.beq (q::o).length (len (bL tP (q::o)))&&Nat.ble (((q::o).length+1)*32) room)=true:=cd3 rfl (by omega)
    have ap:∀(O:PLq) (p:Pln),app (bL tP O) [[i p.n.x,i p.n.y,i p.n.z,i p.b]]=bL tP (O++[p]):=λO p=>cb5 tP O [p]
    show Nx (Q4 Stp.next Stp.exit Stp.fail _ _) _ _;simp only[Q4,Int.toNat_natCast,Rc1,Rc2,hn,hb,rr,ap];rw[btD (l0 hj)];cases hs:P8 (gL tP F j) v==0 with
    |true=>exact hnext (o':=q::o++[gL tP F j]) (by rw[hT,hs];rfl) (by rw[Qdc];rfl)
    |false=>exact hnext (o':=q::o) (by rw[hT,hs,if_neg (by simp),Qbv]) rfl)
  (λj o hj hi=>by
   obtain⟨h1,hi⟩:=hi;have e:j=F.length:=by omega
   subst e;have hO:o=own F v:=by rw[hi,List.take_length];rfl
   rw[<- hO];cases o with
   |nil =>
    refine⟨1,?_,rfl,F.length,rfl⟩;show Q3 Stp.next Stp.exit Stp.fail _ _=_;simp only[Q3];rw[bfD (k9 (Qia _))]
   |cons q o =>
    refine⟨2,?_,rfl,F.length,rfl⟩;show Q4 Stp.next Stp.exit Stp.fail _ _=_;simp only[Q4];rw[bfD (k9 (Qia _))]) 0 [] ⟨Qbw _,by simp⟩
 obtain⟨t,s,h1,rfl,j,rfl⟩:=key;exact⟨j,h1⟩
theorem be9(v:V3)(F:PLq)(hF:OkF F):Y2 ⟨v.x,v.y,v.z,F⟩=⟨1,!kv F v,F⟩:=by
 obtain⟨j,h⟩:=Qe1 F v hF.l;have hv:∀p∈own F v,okp p=true:=λp hp=>hF.v p (Qff.1 hp).1
 have hl:(own F v).length<=1000000:=Qai (Qjh _ _) hF.l;unfold Y2 kb2 kv;simp only[g8,i5];rw[h];cases ho:own F v with
 |nil =>
  have e:Fa6 []=vtx []:=oe4 [] (λp hp=>by cases hp) (by simp)
  have e':Fa7 []=true:=oe5 [] (λp hp=>by cases hp) (by simp)
  rw[e,e'];rfl
 |cons q o =>
  rw[ho] at hv hl;simp only[Wc5,yd4,oe4 _ hv hl,oe5 _ hv hl];rfl
theorem xf5{α:Type}{l:List α}{n:Nat}{c:α->Bool}(h:(l.take n).any c=true):(l.take n).findIdx c<(l.take n).length:=by
 rw[Qic] at h;obtain⟨p,hp,hc⟩:=h;exact Qjg ⟨p,hp,hc⟩
theorem rf8(l:List V3)(n:Nat)(X:PLq)(hn:n<=l.length)(hl:l.length<=1000000000)(hX:OkF X):ca4 ⟨n,bL tV l,X⟩=⟨1,if (l.take n).any (λp=>!kv X p) then (((l.take n).findIdx (λp=>!kv X p):Nat):Int) else -1,X⟩:=by
 have hlen:(l.take n).length=n:=by rw[Qie];omega
 have h:=ga1 (step:=K3 ⟨n,(n:Int),bL tV l⟩) (mk:=λj=>(⟨(j:Int),X⟩:o1)) (c:=λp=>!kv X p) (u:=1) (fin:=2) tV (l.take n) (by omega)
  (λj hj=>by
   rw[hlen] at hj;have hj':j<l.length:=by omega
   simp only[K3,R6,Int.toNat_natCast,g8,i5,Ic1 hj',rc5 hj',be9 _ _ hX,Td4 tV l hj,m8 hj (show n<=4611686018427387904 by omega)]
   rw[btD (l0 hj),bt (f7 hj)]
   rfl)
  (by rw[hlen];simp only[K3,R6];rw[bfD (k9 (Qia _))]) 0 (Qbw _)
 rw[Qih,hlen] at h;unfold ca4 xa9;simp only[g8,i5];rw[show (⟨0,X⟩:o1)=⟨((0:Nat):Int),X⟩ from rfl,h]
 cases ha:(l.take n).any λp=>!kv X p with
 |false=>rfl
 |true =>
  have hf:=xf5 ha;rw[hlen] at hf;simp only[if_true,Qar,Int.toNat_natCast,rc5 (show (l.take n).findIdx (λp=>!kv X p)<l.length by omega),be9 _ _ hX,g8]
  rfl
structure rf9(l:List V3)(n:Nat)(f:V3->Bool)(cur:List V3)(m j:Nat):Prop where
 len:cur.length=l.length
 t:cur.take m=(l.take j).filter f
 d:cur.drop j=l.drop j
 le:m<=j
 lm:m<=n
theorem ce0(l:List V3)(n:Nat)(hnl:n<=l.length)(X:PLq)(hl:l.length<=1000000000)(hX:OkF X)(m j:Nat)(cur:List V3)(hd:rf9 l n (kv X) cur m j)(hjn:j<=n) :
  ∃t s,lp (D9 ⟨n⟩) ⟨(m:Int),(j:Int),bL tV cur,X⟩=(t,s)/\(t=1/\∃m' cur',s=⟨((m':Nat):Int),((n:Nat):Int),bL tV cur',X⟩/\rf9 l n (kv X) cur' m' n):=by
 refine ga3 (step:=D9 ⟨n⟩) (mk:=λj (x:Nat×List V3)=>(⟨(x.1:Int),(j:Int),bL tV x.2,X⟩:r9)) n (λj x=>rf9 l n (kv X) x.2 x.1 j/\j<=n) (λt s=>t=1/\∃m' cur',s=⟨((m':Nat):Int),((n:Nat):Int),bL tV cur',X⟩/\rf9 l n (kv X) cur' m' n) (by omega) (λj x hj hx=>?_) (λj x hj hx=>?_) j (m,cur) ⟨hd,hjn⟩
 ·obtain⟨m,cur⟩:=x;obtain⟨⟨h1,h2,h3,h4,h5⟩,_⟩:=hx
  simp only at h1 h2 h3 h4 h5
  have hjc:j<cur.length:=by omega
  have hmc:m<cur.length:=by omega
  have hg:gL tV cur j=gL tV l j:=bd3 tV h3;have hWm:W ((m:Int)+1)=((m+1:Nat):Int):=by rw[eb6 (by omega) (by omega)];omega
  have hb:Nat.blt m cur.length=true:=by rw[Qcf];exact hmc
  have hrow:j9 (bL tV cur) m=tV.row (gL tV cur m):=Ea9 tV hmc;have sp:∀(v:V3) (x1 x2 x3:Int),va3 (tV.row v) 0 [i x1,i x2,i x3]=tV.row ⟨x1,x2,x3⟩:=λ_ _ _ _=>rfl
  have rl:∀v:V3,Nat.ble (0+3) (len (tV.row v))=true:=λ_=>rfl
  simp only[D9,R7,Int.toNat_natCast,g8,i5,Ic1 hjc,rc5 hjc,be9 _ _ hX,m8 hj (show n<=4611686018427387904 by omega),hWm]
  rw[btD (l0 hj),bt (f7 hj)];simp only[Qar,hrow,Ba4,hb,sp,ie5,f7 (show m<n by omega),hg]
  have ht:=xc0 tV (show j<l.length by omega)
  have hd1:cur.drop (j+1)=l.drop (j+1):=Pc6 h3 1;cases hk:kv X (gL tV l j) with
  |true =>
   refine .nx ⟨(m+1,cur.set m (gL tV l j)),rfl,⟨by rw[Qji];exact h1,?_,?_,by omega,by show m+1<=n;omega⟩,by omega⟩
   ·show (cur.set m (gL tV l j)).take (m+1)=_;rw[ht,Qja,Qje (by rw[Qji];exact hmc),Qjm,Qjo (Qaf _),h2,Qjd,hk,if_pos rfl,List.filter_nil]
   ·show (cur.set m (gL tV l j)).drop (j+1)=_;rw[Qjp (by omega),hd1]
  |false =>
   refine .nx ⟨(m,cur),rfl,⟨h1,?_,hd1,by omega,h5⟩,by omega⟩
   show cur.take m=_;rw[ht,Qja,h2,Qjd,hk,if_neg (by simp),List.filter_nil,Qbv]
 ·obtain⟨m,cur⟩:=x;obtain⟨hx,hjn⟩:=hx;have e:j=n:=by omega
  subst e;refine⟨1,?_,rfl,m,cur,rfl,hx⟩;simp only[D9,R7];rw[bfD (by omega)]
theorem ze7(l:List V3)(n:Nat)(hnl:n<=l.length)(X:PLq)(hl:l.length<=1000000000)(hX:OkF X) :
  ∃m r,ca5 ⟨n,bL tV l,X⟩=⟨1,m,bL tV r,X⟩/\m<=r.length/\r.take m=(l.take n).filter (kv X):=by
 have hlen:(l.take n).length=n:=by rw[Qie];omega
 unfold ca5 ya2;simp only[g8,i5,rf8 l n X hnl hl hX];cases ha:(l.take n).any λp=>!kv X p with
 |false =>
  refine⟨n,l,rfl,hnl,?_⟩
  symm
  rw[List.filter_eq_self];intro p hp
  have:=Qbq.1 ha p hp
  simpa using this
 |true =>
  have hf:=xf5 ha;have hk:kv X (gL tV (l.take n) ((l.take n).findIdx λp=>!kv X p))=false:=by
   have:=Qjc (xs:=l.take n) (p:=λp=>!kv X p) (w:=hf)
   rw[Mb0 tV hf];simpa using this
  have ht:=Pc5 (λp=>!kv X p) (l.take n)
  simp only[Bool.not_not] at ht;generalize hF:(l.take n).findIdx (λp=>!kv X p)=F at *
  rw[hlen] at hf;rw[Td4 tV l hf] at hk;rw[Qjn,Nat.min_eq_left (by omega)] at ht
  have hW:W ((F:Int)+1)=((F+1:Nat):Int):=m8 hf (by omega)
  have hne:((F:Int)==-1)=false:=by rw[beq_eq_false_iff_ne];omega
  obtain⟨t,s,e1,rfl,m,cur,e2,e3⟩:=ce0 l n hnl X hl hX F (F+1) l ⟨rfl,by rw[xc0 tV (show F<l.length by omega),Qja,ht,Qjd,hk,if_neg (by simp),List.filter_nil,Qbv],rfl,by omega,by omega⟩ (by omega)
  have hm:m<=n:=e3.lm;have hin:inB (m:Int) (n+1)=true:=f7 (by omega)
  simp only[if_true,hW,hne,e1,e2,Int.toNat_natCast,hin,Qar,Nat.sub_zero];refine⟨m,cur.take m++(List.replicate (n-m) ⟨0,0,0⟩++cur.drop (m+(n-m))),?_,?_,?_⟩
  ·rw[ne6,ne7,Fd6,cb5,cb5];rfl
  ·rw[Qdc,Qdc,Qie,Qbm,e3.len];omega
  ·rw[Qjb (by rw[Qie,e3.len];omega),Qjn,Nat.min_self,e3.t]
def tb0(F:PLq)(l:List V3):List V3:=(dis l).filter (kv F)
theorem ce1(a:V3)(l:List V3)(hl:l.length<=1000000):∃m r,Pa0 (a,l)=⟨1,m,bL tV r⟩/\m<=r.length/\r.take m=dis (a::l)/\r.length<=1000000000:=by
 obtain⟨m,r,k1,k2,k3,k4⟩:=Rc0 a l hl;have hok:okL tV (l.length+1) (λk=>tV.row (gL tV (a::l) k))=true:=cc5 tV (f:=λk=>gL tV (a::l) k) λ_ _=>rfl
 have hr:=ne9 (a::l) (by simp only[List.length_cons];omega) []
 rw[Qbv] at hr;unfold Pa0 kb5;simp only[De1,De2,Td2 a l hl,hok,k1,f0,Qij,hr];exact⟨m,r,rfl,k2,k3,by omega⟩
end Go.Ev.Ce
namespace Go.Ev.Ce
open Go Go.Ev Go.Ev.L Go.Proofs Go.Sort
theorem Qe2(l:List V3)(a c k:Nat)(s:PLq)(p:Pln):p∈Cc4 l a c s k↔p∈s\/((G7 (gL tV l k) (gL tV l c) (gL tV l a)).2=true/\(p=(G7 (gL tV l k) (gL tV l c) (gL tV l a)).1\/p=ua8 (G7 (gL tV l k) (gL tV l c) (gL tV l a)).1)):=by
 unfold Cc4;generalize G7 (gL tV l k) (gL tV l c) (gL tV l a)=T;cases h2:T.2 with
 |false=>simp
 |true=>simp only[if_true,ef5,true_and,or_assoc]
theorem Gf8(l:List V3)(p:Pln):p∈G0 l↔∃a,a<l.length/\∃c,c<a/\∃k,k<c/\((G7 (gL tV l k) (gL tV l c) (gL tV l a)).2=true/\(p=(G7 (gL tV l k) (gL tV l c) (gL tV l a)).1\/p=ua8 (G7 (gL tV l k) (gL tV l c) (gL tV l a)).1)):=by
 have h:p∈G0 l↔p∈[]\/_:=Db7 (λo a p=>Db7 (λo c p=>Db7 (λo k p=>Qe2 l a c k o p) o p c) o p a) [] p l.length
 rw[h];simp only[List.not_mem_nil,false_or]
theorem ce2{f:PLq->Nat->PLq}(h:∀o k,o.Nodup->(f o k).Nodup){o:PLq}(ho:o.Nodup):∀n,((List.range n).foldl f o).Nodup
 |0=>ho
 |n+1=>by rw[o8];exact h _ _ (ce2 h ho n)
theorem ef7(l:List V3):(G0 l).Nodup:=ce2 (λo a ho=>ce2 (λo c ho=>ce2 (λo k ho=>by
 show (Cc4 l a c o k).Nodup;unfold Cc4;split
 ·exact Fd7 (Fd7 ho)
 ·exact ho) ho c) ho a) List.nodup_nil l.length
theorem sf0{l:List V3}(hl:l.all inV=true)(p:Pln):p∈fil l (G0 l)↔bd9 l p:=by
 have hin:=Qcb.1 hl;have hb:(!bey l p)=hold p l:=rfl;unfold fil;rw[Qff,Gf8,hb];constructor
 ·rintro⟨⟨a,ha,c,hc,k,hk,h1,h2⟩,h3⟩;have ma:=gLm ha;have mc:=gLm (show c<l.length by omega)
  have mk:=gLm (show k<l.length by omega)
  have ht:=(Ca6 h1).2
  rcases h2 with rfl|rfl
  ·exact sd0 mk mc ma ht ((Yb0 ht.ok hl).1 h3)
  ·exact Qc7 mk mc ma ht ((Yb0 (Qc2 ht.ok) hl).1 h3)
 ·intro h;obtain⟨u,w,x,hu,hw,hx,h3,t1,t2,t3⟩:=h.on;obtain⟨a,ha,c,hc,k,hk,hn,hall⟩:=qf4 hu hw hx h3;obtain⟨i1,i2,i3⟩:=hall (λv=>inV v=true) (hin u hu) (hin w hw) (hin x hx)
  obtain⟨e1,e2,e3⟩:=hall (λv=>dot p.n v=p.b) t1 t2 t3
  have h2:=ob2 i3 i2 i1 (df4 hn).2.2.1;exact⟨⟨a,ha,c,hc,k,hk,h2,Qc6 (Ca6 h2).2 h.ok e3 e2 e1⟩,(Yb0 h.ok hl).2 h.hd⟩
theorem xc5{l r:List V3}(h:∀v,v∈r↔v∈l){p:Pln}(hp:bd9 l p):bd9 r p:=by
 obtain⟨⟨hd,u,w,x,hu,hw,hx,e⟩,ok⟩:=hp;exact⟨⟨λv hv=>hd v ((h v).1 hv),u,w,x,(h u).2 hu,(h w).2 hw,(h x).2 hx,e⟩,ok⟩
theorem ze8{l:PLq}(h:l.Nodup):ob1 (Ac9 l):=by
 have h1:=ae8 l;have h2:(Ac9 l).Nodup:=(Fd1 l).nodup_iff.2 h;have h3:=h1.and h2;refine h3.imp λ{x y} ⟨k1,k2⟩=>?_
 rw[jb5] at k1;have k1:¬ LtP y x:=by simpa using k1
 rcases Fe9 x y with h|h|h
 ·exact h
 ·exact absurd h k2
 ·exact absurd h k1
theorem sf1{l:List V3}(hl:l.all inV=true):(dis l).all inV=true:=Qcb.2 λv hv=>Qcb.1 hl v ((ec2 l v).1 hv)
theorem oe6{l:List V3}(hl:l.all inV=true):Ac9 (fil (dis l) (G0 (dis l)))=F0 l:=by
 refine bd6 (ze8 ((ef7 (dis l)).filter _)) (Fd2 l) λp=>?_
 rw[(Fd1 _).mem_iff,sf0 (sf1 hl),Z1 hl];exact⟨xc5 λv=>(ec2 l v).symm,xc5 (ec2 l)⟩
theorem Qf8{l:List V3}(hl:l.all inV=true)(h4:Sol l):F0 l≠[]:=λe=>by
 have h:=xc2 h4 (Ge3 hl (c:=[]) λp hp=>by rw[<- Z1 hl,e] at hp;exact hp) (x:=⟨100,0,0,1⟩) ⟨by show (0:Int)<1;omega,λp hp=>by cases hp⟩ (h:=⟨⟨1,0,0⟩,24⟩) λv hv=>by
  obtain⟨⟨a1,a2⟩,_,_⟩:=(Mb5 v).1 (Qcb.1 hl v hv);simp only[dot];omega
 simp only[rmZ] at h;omega
theorem Ab0{l:List V3}(h48:l.length<=48)(hl:l.all inV=true)(h4:Sol l):P9 l=0:=by
 have hin:=Qcb.1 hl;unfold P9;rw[if_neg (by omega),if_neg (by rw[<- Qix,hl];simp)]
 have h1:(ixs l.length).any (sp1 l)=true:=by
  obtain⟨a,c,k,v,ha,hc,hk,hv,hd⟩:=h4;obtain⟨i',hi,j',hj,k',hk',hn,hall⟩:=qf4 ha hc hk (Fd3 hd);obtain⟨i1,i2,i3⟩:=hall (λv=>inV v=true) (hin _ ha) (hin _ hc) (hin _ hk)
  have ht:=ob2 i3 i2 i1 (df4 hn).2.2.1;have mem:∀{n m:Nat},m<n->((m:Nat):Int)∈ixs n:=λ{n m} h=>Qbr.2 ⟨m,Qca.2 h,rfl⟩
  refine Qic.2 ⟨_,mem hi,?_⟩;unfold sp1;rw[Int.toNat_natCast];refine Qic.2 ⟨_,mem hj,?_⟩;unfold sp2;rw[Int.toNat_natCast];refine Qic.2 ⟨gL tV l k',?_,ht⟩;rw[<- Td4 tV l hk'];exact Ga7 tV (by rw[Qie];omega)
 have h2:rc6 l=false:=by
  unfold rc6;rw[if_pos h1];obtain⟨hi,k1⟩:=xc4 h1;have k1:(ixs (iF l)).any (sp2 l (iF l))=true:=k1;obtain⟨hj,k2⟩:=xc4 k1;have k2:(l.take (jF l)).any (λv=>(G7 v (gL tV l (jF l)) (gL tV l (iF l))).2)=true:=k2
  have hj:jF l<iF l:=hj;have hi:iF l<l.length:=hi;have hk:=be4 k2;have hk2:=Qjc (xs:=l.take (jF l)) (p:=λv=>(G7 v (gL tV l (jF l)) (gL tV l (iF l))).2) (w:=hk)
  rw[<- Mb0 tV hk,Td4 tV l (by rw[Qie] at hk;omega)] at hk2
  have hok:okp (plF l)=true:=(Ca6 hk2).2.ok;obtain⟨v,hv,hne⟩:=h4.off (id4 hok) (plF l).b;rw[Qjr,Qic];refine⟨v,hv,?_⟩
  have:P8 (plF l) v≠0:=λe=>hne ((Xb8 hok (hin v hv)).1 e)
  simpa using this
 rw[h2];rfl
theorem sf2(l r:PLq)(n:Nat)(hn:n=l.length):(two (r1L tP) r1I).rd (.tup [.sl 0 0 n 0,i 0],[⟨57,4,bL tP (l++r),true,false,0⟩])=some (l,0):=by
 subst hn;have h:(r1L tP).rd [⟨57,4,bL tP (l++r),true,false,0⟩] (.sl 0 0 l.length 0)=some l:=by
  show Bool.rec (motive:=λ_=>Option PLq) none (some (slR tP (bL tP (l++r)) 0 l.length)) (Bool.and true (okS tP (bL tP (l++r)) 0 l.length))=_
  rw[bf7 _ _ (by rw[Qdc];omega),bf8 _ _ (by rw[Qdc];omega),List.take_left']
  ·rfl
  ·rfl
 simp only[two,h];rfl
theorem Qe3(a:V3)(l:List V3)(h48:(a::l).length<=48)(hl:(a::l).all inV=true)(h4:Sol (a::l)):Rd (two (r1L tP) r1I) (Ca5 (a,l)) (λr=>r=(F0 (a::l),0)):=by
 have hc:=Ab0 h48 hl h4;have hdl:=Ge7 (a::l);have hll:l.length<=1000000:=by simp only[List.length_cons] at h48;omega
 obtain⟨j,e⟩:=Gf7 (dis (a::l)) (by omega)
 have hf:=oe6 hl;have hne:fil (dis (a::l)) (G0 (dis (a::l)))≠[]:=λe=>by
  rw[e] at hf;have h0:Ac9 []=[]:=Pe2;rw[h0] at hf;exact Qf8 hl h4 hf.symm
 have hok:okL tV (l.length+1) (λk=>tV.row (gL tV (a::l) k))=true:=cc5 tV (f:=λk=>gL tV (a::l) k) λ_ _=>rfl
 have hlen:(fil (dis (a::l)) (G0 (dis (a::l)))).length<=1000000:=by
  have h1:=be6 (dis (a::l)) (G0 (dis (a::l)));have h2:(G0 (dis (a::l))).length<=_:=be7 (dis (a::l)) (by omega) _ (Qaf _)
  omega
 unfold Ca5;simp only[g8,B7,i5,De1,De2,hok,Rc4 (a::l) (by omega),Rc3 (a::l) (by omega),hc,ze1 a l hll,ze2 a l hll,e]
 generalize fil (dis (a::l)) (G0 (dis (a::l)))=O at *
 cases O with
 |nil=>exact absurd rfl hne
 |cons q o =>
  have hr:(Bool.and (Nat.ble (q::o).length room) (Bool.and (Nat.ble (q::o).length (len (bL tP (q::o)))) (okS tP (bL tP (q::o)) 0 (q::o).length)))=true:=by
   rw[yd4,Ba4,Qas,Qas,Qjj,Qjj];refine⟨by unfold room;omega,Qaf _,rfl⟩
  simp only[phP,hr,Wc5,of8,cb5,hf];exact⟨_,(F0 (a::l),0),rfl,sf2 _ _ _ (by rw[<- hf,wc6]),rfl⟩
theorem ef8{l:List V3}(hl:l.all inV=true){v:V3}(hv:v∈l):kv (F0 l) v=true↔Spn (F0 l) v:=by
 have hin:=Qcb.1 hl;have hs:∀p∈F0 l,(P8 p v==0)=true↔dot p.n v=p.b:=λp hp=>by rw[beq_iff_eq];exact Xb8 (ye9 hp).ok (hin v hv)
 unfold kv own;rw[He1];constructor
 ·rintro⟨p,q,s,hp,hq,hs',hw⟩;rw[Qff] at hp hq hs';exact⟨p,q,s,hp.1,hq.1,hs'.1,hw,(hs p hp.1).1 hp.2,(hs q hq.1).1 hq.2,(hs s hs'.1).1 hs'.2⟩
 ·rintro⟨p,q,s,hp,hq,hs',hw,e1,e2,e3⟩;exact⟨p,q,s,Qff.2 ⟨hp,(hs p hp).2 e1⟩,Qff.2 ⟨hq,(hs q hq).2 e2⟩,Qff.2 ⟨hs',(hs s hs').2 e3⟩,hw⟩
end Go.Ev.Ce
namespace Go.Ev.Ce
open Go Go.Ev Go.Ev.L Go.Proofs
structure B8(v:V3):Prop where
 x:Sm 8 v.x
 y:Sm 8 v.y
 z:Sm 8 v.z
structure Mp(l:List V3):Prop where
 l4:4<=l.length
 l8:l.length<=8
 bd:∀v∈l,Sm 11 v.x/\Sm 11 v.y/\Sm 11 v.z
 nf:nf0 l=true
theorem Mp.inV{l:List V3}(h:Mp l):l.all inV=true:=Qcb.2 λv hv=>by
 obtain⟨h1,h2,h3⟩:=h.bd v hv;exact (Mb5 v).2 ⟨h1.mono (by omega),h2.mono (by omega),h3.mono (by omega)⟩
theorem Qf9{l:List V3}(hl:l.all Ce.inV=true)(h4:Sol l):nf0 l=true:=by
 have hin:=Qcb.1 hl;obtain⟨a,c,k,v,ha,hc,hk,hv,hd⟩:=h4;obtain⟨i',hi,j',hj,k',hk',hn,hall⟩:=qf4 ha hc hk (Fd3 hd);obtain⟨i1,i2,i3⟩:=hall (λv=>Ce.inV v=true) (hin _ ha) (hin _ hc) (hin _ hk)
 have ht:=ob2 i1 i2 i3 hn;refine Qic.2 ⟨i',Qca.2 hi,Qic.2 ⟨j',Qca.2 hj,Qic.2 ⟨k',Qca.2 hk',?_⟩⟩⟩;unfold nf Pe3;rw[ht,Bool.true_and,Qic];have hok:=(Ca6 ht).2.ok;obtain⟨w,hw,hne⟩:=Sol.off ⟨a,c,k,v,ha,hc,hk,hv,hd⟩ (id4 hok) (G7 (gL tV l i') (gL tV l j') (gL tV l k')).1.b;refine⟨w,hw,?_⟩
 have:P8 (G7 (gL tV l i') (gL tV l j') (gL tV l k')).1 w≠0:=λe=>hne ((Xb8 hok (hin w hw)).1 e)
 simpa using this
theorem ya4{l:List V3}(h:P9 l=0):l.length<=48/\l.all inV=true/\Sol l:=by
 unfold P9 at h
 split at h
 ·cases h
 rename_i h48
 split at h
 ·cases h
 rename_i hin
 split at h
 ·cases h
 rename_i hf;have hl:l.all inV=true:=by
  rw[Qcb];intro v hv;cases hi:inV v with
  |true=>rfl
  |false=>exact absurd (Qic.2 ⟨v,hv,by rw[hi];rfl⟩) hin
 have hin2:=Qcb.1 hl;refine⟨by omega,hl,?_⟩
 have hf:rc6 l=false:=Bool.eq_false_iff.2 hf;unfold rc6 at hf
 split at hf
 ·rename_i h1;obtain⟨hi,k1⟩:=xc4 h1;have k1:(ixs (iF l)).any (sp2 l (iF l))=true:=k1;obtain⟨hj,k2⟩:=xc4 k1;have k2:(l.take (jF l)).any (λv=>(G7 v (gL tV l (jF l)) (gL tV l (iF l))).2)=true:=k2
  have hj:jF l<iF l:=hj;have hi:iF l<l.length:=hi;have hk:=be4 k2;have hk2:=Qjc (xs:=l.take (jF l)) (p:=λv=>(G7 v (gL tV l (jF l)) (gL tV l (iF l))).2) (w:=hk)
  rw[Qie] at hk;rw[<- Mb0 tV (by rw[Qie];exact hk),Td4 tV l (by omega)] at hk2
  have ht:=(Ca6 hk2).2;rw[Qjr,Qic] at hf;obtain⟨v,hv,hne⟩:=hf;have hne:P8 (plF l) v≠0:=bne_iff_ne.1 hne;have ht:Thr (gL tV l (kF l)) (gL tV l (jF l)) (gL tV l (iF l)) (plF l):=ht;have hkl:kF l<l.length:=by
   have:kF l<min (jF l) l.length:=hk
   omega
  have hoff:dot (plF l).n v≠(plF l).b:=λe=>hne ((Xb8 ht.ok (hin2 v hv)).2 e)
  refine⟨_,_,_,v,gLm hkl,gLm (show jF l<l.length by omega),gLm hi,hv,λh0=>hoff ?_⟩
  obtain⟨ok,⟨g,hg,e1,e2,e3⟩,o⟩:=ht;have e:g*(dot (plF l).n v-(plF l).b)=dot (N3 (gL tV l (kF l)) (gL tV l (jF l)) (gL tV l (iF l))) (K4 v (gL tV l (kF l))):=by
   have e1:g*(plF l).n.x=(N3 (gL tV l (kF l)) (gL tV l (jF l)) (gL tV l (iF l))).x:=e1;have e2:g*(plF l).n.y=(N3 (gL tV l (kF l)) (gL tV l (jF l)) (gL tV l (iF l))).y:=e2;have e3:g*(plF l).n.z=(N3 (gL tV l (kF l)) (gL tV l (jF l)) (gL tV l (iF l))).z:=e3;rw[o];simp only[dot];rw[<- e1,<- e2,<- e3];simp only[K4]
   grind
  rw[h0] at e
  have:=(Qib.1 e).resolve_left (by omega)
  omega
 ·cases hf
def Ga9(l:List V3):PLq×Int:=if P9 l=0 then (F0 l,0) else ([],P9 l)
def ta7(l:List V3):List V3×Int:=if P9 l=0 then (tb0 (F0 l) l,0) else ([],P9 l)
theorem Rc5{l:List V3}(h48:l.length<=48)(hl:l.all inV=true):(F0 l).length<=1000000:=by
 have h1:=be6 (dis l) (G0 (dis l));have hd:=Ge7 l;have h2:(G0 (dis l)).length<=_:=be7 (dis l) (by omega) _ (Qaf _)
 rw[<- oe6 hl,wc6];omega
theorem ec4(a:V3)(l:List V3)(hl:l.length<=900000):Rd (two (r1L tP) r1I) (Ca5 (a,l)) (λr=>r=Ga9 (a::l)):=by
 by_cases h:P9 (a::l)=0
 ·obtain⟨h1,h2,h3⟩:=ya4 h;unfold Ga9;rw[if_pos h];exact Qe3 a l h1 h2 h3
 ·have hll:(a::l).length<=1000000:=by simp only[List.length_cons];omega
  have hne:(P9 (a::l) != 0)=true:=bne_iff_ne.2 h;unfold Ga9 Ca5;rw[if_neg h];simp only[g8,B7,i5,Rc4 (a::l) hll,Rc3 (a::l) hll,hne,f0];exact⟨_,([],P9 (a::l)),rfl,rfl,rfl⟩
theorem Rc6:P9 []=11:=by
 unfold P9 rc6;rfl
def Fa8(l:List V3):PLq×Int:=Ga9 l
def mb1(l:List V3):Bool:=decide (1<=l.length/\l.length<=900000)
def Cc5:Sum:=G4 (Oa4 tV) λl=>.guard (mb1 l) (.ret ((two (r1L tP) r1I).enc (Fa8 l),[]))
def Cc6:Sum:=λargs blks=>match args,blks with
 |[.v (.slice none 0 0)],[]=>Rb0 args blks
 |_,_=>Cc5 args blks
theorem Gf9{f:Nat}{A B:Sum}(hA:e7 prog G f A)(hB:e7 prog G f B):e7 prog G f (λargs blks=>match args,blks with
 |[.v (.slice none 0 0)],[]=>A args blks
 |_,_=>B args blks):=by
 intro args blks r out he
 simp only at he
 split at he
 ·exact hA _ _ r out he
 ·exact hB _ _ r out he
theorem Fd9:e7 prog G 24 Cc5:=by
 refine af6 (wc7 Bc6 λa r hr=>?_) (wc7 Db6 λa r hr=>?_) (wc7 qc8 λa r hr=>?_)
 ·obtain⟨p,c⟩:=a;obtain⟨hg,hr⟩:=DT.run_guard_some hr;have hl:c.length<=900000:=by
   have:=(of_decide_eq_true hg).2
   simp only[List.length_cons] at this;omega
  have hp:xb2 (p,c)=Ga9 (p::c):=(ec4 p c hl).p;have hq:xb3 (p,c)=true:=(ec4 p c hl).g;rw[hp,hq];exact hr
 ·obtain⟨hg,hr⟩:=DT.run_guard_some hr;exact absurd (of_decide_eq_true hg).1 (by simp)
 ·obtain⟨hg,hr⟩:=DT.run_guard_some hr;exact absurd (of_decide_eq_true hg).1 (by simp)
theorem Gd0:e7 prog G 24 Cc6:=Gf9 Db6 Fd9
theorem Rc7(a:V3)(l:List V3)(hl:l.length<=900000):Rd (two (r1L tV) r1I) (La9 (a,l)) (λr=>r=ta7 (a::l)):=by
 have hok:okL tV (l.length+1) (λk=>tV.row (gL tV (a::l) k))=true:=cc5 tV (f:=λk=>gL tV (a::l) k) λ_ _=>rfl
 have hp:xb2 (a,l)=Ga9 (a::l):=(ec4 a l hl).p;have hq:xb3 (a,l)=true:=(ec4 a l hl).g;unfold ta7;unfold La9;simp only[g8,B7,i5,De1,De2,hok,hp,hq,f0];unfold Ga9;by_cases h:P9 (a::l)=0
 ·obtain⟨h1,h2,h3⟩:=ya4 h;have hF:OkF (F0 (a::l)):=⟨Rc5 h1 h2,λp hp=>(ye9 hp).ok⟩
  obtain⟨m,r,e1,e2,e3,e4⟩:=ce1 a l (by omega)
  obtain⟨m',r',k1,k2,k3⟩:=ze7 r m e2 (F0 (a::l)) e4 hF;rw[if_pos h,if_pos h];simp only[e1,k1];refine⟨_,(r'.take m',0),rfl,?_,by rw[k3,e3];rfl⟩
  have h:(r1L tV).rd [⟨52,3,bL tV r',true,false,0⟩] (.sl 0 0 m' 0)=some (r'.take m'):=by
   show Bool.rec (motive:=λ_=>Option (List V3)) none (some (slR tV (bL tV r') 0 m')) (Bool.and true (okS tV (bL tV r') 0 m'))=_
   rw[Td1 _ _ k2,cd2 _ _ k2];rfl
  simp only[two,h];rfl
 ·have hne:(P9 (a::l) != 0)=true:=bne_iff_ne.2 h;rw[if_neg h,if_neg h];simp only[hne,f0];exact⟨_,([],P9 (a::l)),rfl,rfl,rfl⟩
def nd2(l:List V3):List V3×Int:=ta7 l
def ic5(l:List V3):Bool:=decide (1<=l.length/\l.length<=900000)
def nd3:Sum:=G4 (Oa4 tV) λl=>.guard (ic5 l) (.ret ((two (r1L tV) r1I).enc (nd2 l),[]))
theorem cd4:e7 prog G 53 nd3:=by
 refine af6 (wc7 md1 λa r hr=>?_) (wc7 ad3 λa r hr=>?_) (wc7 ad5 λa r hr=>?_)
 ·obtain⟨p,c⟩:=a;obtain⟨hg,hr⟩:=DT.run_guard_some hr;have hl:c.length<=900000:=by
   have:=(of_decide_eq_true hg).2
   simp only[List.length_cons] at this;omega
  have hp:qc6 (p,c)=ta7 (p::c):=(Rc7 p c hl).p;have hq:qc7 (p,c)=true:=(Rc7 p c hl).g;rw[hp,hq];exact hr
 ·obtain⟨hg,hr⟩:=DT.run_guard_some hr;exact absurd (of_decide_eq_true hg).1 (by simp)
 ·obtain⟨hg,hr⟩:=DT.run_guard_some hr;exact absurd (of_decide_eq_true hg).1 (by simp)
set_option maxRecDepth 100000
def Md2:List (Nat×Sum):=[(65,db8)]
theorem Gd1:j8 prog G Md2:=⟨lb4,trivial⟩
def ec7{α:Type}(kk:Pb9->α)(x:rb8):α:=let y1:=(⟨x.c9,x.d9,x.e8⟩:V3);let y0:=(⟨(⟨x.pb4,x.pb5,x.pb6⟩:V3),x.Ie9⟩:Pln);let t1:=(sa0 y0 y1);(sl (sa1 y0 y1) (kk ⟨1,decide (t1>0)⟩) (kk ⟨0,false⟩))
def xb7(x:rb8):Pb9:=ec7 (λr=>r) x
def Cc7(x:rb8)(r:Pb9):DT (a7×List b7):=(Da1 r.alt 1 (b r.bs0,[bq 0 3 [[i x.c9,i x.d9,i x.e8]]]) .fail)
def Rc8:Sum:=Aa7 ⟨[.agg (kLq 4),sPq 0],[⟨0,3,true,some [kLq 3]⟩],λa H=>(⟨cIq a 0 0,cIq a 0 1,cIq a 0 2,cIq a 0 3,hIq H 0 0 0,hIq H 0 0 1,hIq H 0 0 2⟩,())⟩ (λx=>Cc7 x (xb7 x))
theorem Md3:e7 prog G 64 Rc8:=s8 (enc:=λx=>⟨[.agg [i x.pb4,i x.pb5,i x.pb6,i x.Ie9],.ptr 0 0 0 0],[bq 0 3 [[i x.c9,i x.d9,i x.e8]]]⟩) (λa H=>by kernel_rfl) (bd b64 Gd1) λx=>ka3 (mEq @ec7 (λr=>(Cc7 x r).run) x)
def Ma0:List (Nat×Sum):=[(64,Rc8)]
theorem xb8:j8 prog G Ma0:=⟨Md3,trivial⟩
def Ea3(p:J1)(s:fa7):St:=⟨eL tP p.q8::.fn 64 [.ptr 0 0 0 0]::ra 5 (i p.is7::i s.is8::ra 10 []),[bq 0 3 [[i p.c9,i p.d9,i p.e8]]]⟩
def O0{α:Type}(k:fa7->α)(e:Nat->α)(z:α)(p:J1)(s:fa7):α:=let y0:=(gL tP p.q8 s.is8.toNat);let t1:=(xb7 ⟨y0.n.x,y0.n.y,y0.n.z,y0.b,p.c9,p.d9,p.e8⟩);(sl (decide (s.is8<p.is7)) (sl (inB s.is8 (List.length p.q8)) (sl (Nat.beq t1.alt 1) (sl t1.bs0 (e 1) (k ⟨W (s.is8+1)⟩)) z) z) (e 2))
def F8(p:J1)(s:fa7):Stp fa7:=O0 .next .exit .fail p s
def ga4:Lo J1 fa7:=⟨En Ma0,1,Df0,[1,0,1,4,4],[0,1,7,8],.p,[⟨sLq tP::.fn 64 [.o (.ptr 0 0 0 0)]::ru2 5 (sIq::sIq::ru2 10 []),[⟨0,3,true,some [kLq 3]⟩],λa H=>(⟨aLq tP a 0,aIq a 7,hIq H 0 0 0,hIq H 0 0 1,hIq H 0 0 2⟩,⟨aIq a 8⟩)⟩],F8,[(none,λp s=>⟨[i s.is8],[bq 0 3 [[i p.c9,i p.d9,i p.e8]]]⟩),(some 0,λp s=>upq (Ea3 p s) [(9,b (decide (s.is8<p.is7)))])],Ea3⟩
theorem tb1:ga4.Ok:=Lo.okq [] .nil λp s=>(.ofq @O0)
def pa1{α:Type}(kk:wa7->α)(x:oa4):α:=let t1:=(lp (F8 (⟨rt tP x.q8,(↑(List.length x.q8):Int),x.c9,x.d9,x.e8⟩:J1)) (⟨0⟩:fa7));(sl ((cnE tP x.q8)&&true) (sl (Nat.beq t1.1 1) (kk ⟨1,t1.2.is8⟩) (sl (Nat.beq t1.1 2) (kk ⟨1,-1⟩) (kk ⟨0,0⟩))) (kk ⟨0,0⟩))
def X1(x:oa4):wa7:=pa1 (λr=>r) x
def Ma1(x:oa4)(r:wa7):DT (a7×List b7):=(Da1 r.alt 1 (i r.is0,[bq 0 3 [[i x.c9,i x.d9,i x.e8]]]) .fail)
def Qa5:Sum:=Aa7 ⟨[sLq tP,.fn 64 [.o (.ptr 0 0 0 0)]],[⟨0,3,true,some [kLq 3]⟩],λa H=>(⟨aLq tP a 0,hIq H 0 0 0,hIq H 0 0 1,hIq H 0 0 2⟩,())⟩ (λx=>Ma1 x (X1 x))
theorem Db8:e7 prog G 98 Qa5:=s8 (enc:=λx=>⟨[eL tP x.q8,.fn 64 [.ptr 0 0 0 0]],[bq 0 3 [[i x.c9,i x.d9,i x.e8]]]⟩) (λa H=>by kernel_rfl) (bd b98 xb8) λx=>O4 (.s .p (.s (.s .p (.b (.u ga4.ls))) .p)) [ga4.pr] (.cons tb1 .nil) (mEq @pa1 (λr=>(Ma1 x r).run) x)
def ob3:List (Nat×Sum):=[(98,Qa5)]
theorem kb7:j8 prog G ob3:=⟨Db8,trivial⟩
def fa2{α:Type}(kk:Pb9->α)(x:oa4):α:=let t1:=(X1 ⟨rt tP x.q8,x.c9,x.d9,x.e8⟩);(sl ((cnE tP x.q8)&&true) (sl (Nat.beq t1.alt 1) (kk ⟨1,decide (t1.is0>=0)⟩) (kk ⟨0,false⟩)) (kk ⟨0,false⟩))
def P4(x:oa4):Pb9:=fa2 (λr=>r) x
def Ba0(x:oa4)(r:Pb9):DT (a7×List b7):=(Da1 r.alt 1 (b r.bs0,[bq 0 3 [[i x.c9,i x.d9,i x.e8]]]) .fail)
def Ea4:Sum:=Aa7 ⟨[sLq tP,.fn 64 [.o (.ptr 0 0 0 0)]],[⟨0,3,true,some [kLq 3]⟩],λa H=>(⟨aLq tP a 0,hIq H 0 0 0,hIq H 0 0 1,hIq H 0 0 2⟩,())⟩ (λx=>Ba0 x (P4 x))
theorem ob4:e7 prog G 63 Ea4:=s8 (enc:=λx=>⟨[eL tP x.q8,.fn 64 [.ptr 0 0 0 0]],[bq 0 3 [[i x.c9,i x.d9,i x.e8]]]⟩) (λa H=>by kernel_rfl) (bd b63 kb7) λx=>ka3 (mEq @fa2 (λr=>(Ba0 x r).run) x)
def oe7:List (Nat×Sum):=[(24,Cc6),(62,Cb2),(63,Ea4)]
theorem ce3:j8 prog G oe7:=⟨Gd0,Lb5,ob4,trivial⟩
def Za1(x:List V3)(y:V3):ROq:=let t1:=(Fa8 (rt tV x));let t2:=(Ba8 y);let t3:=(P4 ⟨rt tP t1.1,y.x,y.y,y.z⟩);(sl (okE tV x) (sl (mb1 (rt tV x)) (sl (t1.2==0) (sl (Ba9 y) (sl t2 (sl ((cnE tP t1.1)&&true) (sl (Nat.beq t3.alt 1) (some (b (!t3.bs0),[])) none) none) (some (b false,[]))) none) (some (b false,[]))) none) none)
def ec8(x:List V3)(y:V3):Bool:=G5 (one r1B) (Za1 x y)
def ec9(x:List V3)(y:V3):Bool:=okO (one r1B) (Za1 x y)
def Gd2:Sum:=fa5 (Oa4 tV) (ia6 tV) (λx y=>.guard (ec9 x y) (.ret ((one r1B).enc (ec8 x y),[])))
theorem oe8:e7 prog G 25 Gd2:=Lb0 (bd b25 ce3) (one r1B) (o:=Za1)
def eb8(x:V3)(y:V3):ROq:=(sl (x.x != y.x) (some (b (decide (x.x<y.x)),[])) (sl (x.y != y.y) (some (b (decide (x.y<y.y)),[])) (some (b (decide (x.z<y.z)),[]))))
def eb9(x:V3)(y:V3):Bool:=G5 (one r1B) (eb8 x y)
def xb9(x:V3)(y:V3):Bool:=okO (one r1B) (eb8 x y)
def Rc9:Sum:=fa5 (ia6 tV) (ia6 tV) (λx y=>.guard (xb9 x y) (.ret ((one r1B).enc (eb9 x y),[])))
theorem Md4:e7 prog G 147 Rc9:=Lb0 (bd Zf8 Ra4) (one r1B) (o:=eb8)
def Gd3:List (Nat×Sum):=[(147,Rc9)]
theorem oe9:j8 prog G Gd3:=⟨Md4,trivial⟩
structure ob5 where
 d6:List V3
 (c9 d9 e8:Int)
def Sc0(p:ob5)(s:O6):St:=⟨eL tV p.d6::.unk::.unk::.ptr 0 0 0 0::.unk::i s.is5::ra 41 [],[bq 0 3 [[i p.c9,i p.d9,i p.e8]]]⟩
def mb2{α:Type}(k:O6->α)(e:Nat->α)(z:α)(p:ob5)(s:O6):α:=let y0:=(⟨p.c9,p.d9,p.e8⟩:V3);let t1:=(eb9 (gL tV p.d6 s.is5.toNat) y0);(sl (decide (s.is5<(↑(List.length p.d6):Int))) (sl (inB s.is5 (List.length p.d6)) (sl (xb9 (gL tV p.d6 s.is5.toNat) y0) (sl t1 (k ⟨W (s.is5+1)⟩) (e 1)) z) z) (e 2))
def Pa1(p:ob5)(s:O6):Stp O6:=mb2 .next .exit .fail p s
def rc7:Lo ob5 O6:=⟨En Gd3,0,wf6,[1,1,0,4,4],[0,3,5],.p,[⟨sLq tV::sUq::sUq::sPq 0::sUq::sIq::ru2 41 [],[⟨0,3,true,some [kLq 3]⟩],λa H=>(⟨aLq tV a 0,hIq H 0 0 0,hIq H 0 0 1,hIq H 0 0 2⟩,⟨aIq a 5⟩)⟩],Pa1,[(some 0,λp s=>let t1:=(eb9 (gL tV p.d6 s.is5.toNat) (⟨p.c9,p.d9,p.e8⟩:V3));⟨eL tV p.d6::.unk::.unk::.ptr 0 0 0 0::.unk::i s.is5::.unk::i s.is5::eL tV p.d6::i (↑(List.length p.d6):Int)::b (decide (s.is5<(↑(List.length p.d6):Int)))::b true::eL tV p.d6::i s.is5::.tptr [i (gL tV p.d6 s.is5.toNat).x,i (gL tV p.d6 s.is5.toNat).y,i (gL tV p.d6 s.is5.toNat).z]::.agg [i (gL tV p.d6 s.is5.toNat).x,i (gL tV p.d6 s.is5.toNat).y,i (gL tV p.d6 s.is5.toNat).z]::.agg [i p.c9,i p.d9,i p.e8]::b t1::b t1::ra 28 [],[bq 0 3 [[i p.c9,i p.d9,i p.e8]]]⟩),(some 0,λp s=>upq (Sc0 p s) [(7,i s.is5),(8,eL tV p.d6),(9,i (↑(List.length p.d6):Int)),(10,b (decide (s.is5<(↑(List.length p.d6):Int)))),(11,b false),(12,u),(13,u),(14,u),(15,u),(16,u),(17,u),(18,b false)])],Sc0⟩
theorem ce4:rc7.Ok:=Lo.okq [] .nil λp s=>(.ofq @mb2)
def Yb1(x:List V3)(y:V3):ROq:=let y0:=(List.length (rt tV x));let t1:=(lp (Pa1 (⟨rt tV x,y.x,y.y,y.z⟩:ob5)) (⟨0⟩:O6));let a0:=(l6 (λk=>(λk=>(tV).row (gL tV (rt tV x) k)) (0+k)) (List.range (t1.2.is5.toNat-0)));let y2:=((0+(len a0))+1);let y1:=(app (app [] a0) [[i y.x,i y.y,i y.z]]);let a1:=(l6 (λk=>(λk=>(tV).row (gL tV (rt tV x) k)) (t1.2.is5.toNat+k)) (List.range (y0-t1.2.is5.toNat)));let a2:=(inB t1.2.is5 (y0+1));let a3:=(Nat.beq (0+(len a0)) (len (app [] a0))&&Nat.ble (y2*24) room);let a4:=(y2+(len a1));let a5:=(gL tV (rt tV x) t1.2.is5.toNat);let a6:=(Nat.beq 0 0&&Nat.ble ((0+(len a0))*24) room);let w0:ROq:=(sl a2 (sl a6 (sl a3 (sl a2 (sl (Nat.beq y2 (len y1)&&Nat.ble (a4*24) room) (some (.sl 0 0 a4 0,[bq 52 3 (app y1 a1)])) none) none) none) none) none);let w1:ROq:=(sl (decide (t1.2.is5<(↑y0:Int))) (sl (inB t1.2.is5 y0) (sl ((a5.x==y.x)&&((a5.y==y.y)&&((a5.z==y.z)&&true))) (some (eL tV (rt tV x),[])) w0) none) w0);(sl ((cnE tV x)&&true) (sl (Nat.beq t1.1 1) w1 (sl (Nat.beq t1.1 2) w1 none)) none)
def xc6(x:List V3)(y:V3):List V3:=G5 (one (r1L tV)) (Yb1 x y)
def xc7(x:List V3)(y:V3):Bool:=okO (one (r1L tV)) (Yb1 x y)
def Ud0:Sum:=fa5 (Oa4 tV) (ia6 tV) (λx y=>.guard (xc7 x y) (.ret ((one (r1L tV)).enc (xc6 x y),[])))
theorem ze9:e7 prog G 117 Ud0:=Wc6 (bd Yf3 oe9) (one (r1L tV)) (o:=Yb1) λx y=>O4 (.s .p (.s .p (.s (.b (.u rc7.ls)) .p))) [rc7.pr] (.cons ce4 .nil)
def Ta9:List (Nat×Sum):=[(112,dc6),(140,oc6),(142,wc5)]
theorem Gd4:j8 prog G Ta9:=⟨pc2,Nc0,Hc0,trivial⟩
structure B9 where
 ph:Nat
 is6:Int
 ns5:Nat
 eh1:List (List a7)
def Yb2(p:oa4)(s:B9):St:=⟨eL tP p.q8::.unk::.unk::.ptr 0 0 0 0::.unk::nlq::i s.is6::ra 55 [],[bq 0 3 [[i p.c9,i p.d9,i p.e8]]]⟩
def Yb3(p:oa4)(s:B9):St:=⟨eL tP p.q8::.unk::.unk::.ptr 0 0 0 0::.unk::.sl 1 0 s.ns5 0::i s.is6::ra 55 [],[bq 0 3 [[i p.c9,i p.d9,i p.e8]],bq 52 3 s.eh1]⟩
def nd4(p:oa4)(s:B9):St:=(sel (Nat.beq s.ph 1) (Yb3 p s) (Yb2 p s))
def ja5{α:Type}(k:B9->α)(e:Nat->α)(z:α)(p:oa4)(s:B9):α:=let y2:=(List.length p.q8);let y1:=(⟨p.c9,p.d9,p.e8⟩:V3);let y0:=(gL tP p.q8 s.is6.toNat);let t1:=(Ja6 y0 y1);(sl (decide (s.is6<(↑y2:Int))) (sl (inB s.is6 y2) (sl (jb7 y0 y1) (sl (t1==0) (sl (inB s.is6 y2) (k ⟨1,W (s.is6+1),1,[[i y0.n.x,i y0.n.y,i y0.n.z]]⟩) z) (k ⟨0,W (s.is6+1),0,[]⟩)) z) z) (e 1))
def ja6{α:Type}(k:B9->α)(e:Nat->α)(z:α)(p:oa4)(s:B9):α:=let y2:=(List.length p.q8);let y1:=(⟨p.c9,p.d9,p.e8⟩:V3);let y0:=(gL tP p.q8 s.is6.toNat);let t1:=(Ja6 y0 y1);(sl (decide (s.is6<(↑y2:Int))) (sl (inB s.is6 y2) (sl (jb7 y0 y1) (sl (t1==0) (sl (inB s.is6 y2) (sl (Nat.beq s.ns5 (len s.eh1)&&Nat.ble ((s.ns5+1)*24) room) (k ⟨1,W (s.is6+1),s.ns5+1,app s.eh1 [[i y0.n.x,i y0.n.y,i y0.n.z]]⟩) z) z) (k ⟨1,W (s.is6+1),s.ns5,s.eh1⟩)) z) z) (e 2))
def Xa5(p:oa4)(s:B9):Stp B9:=(sel (Nat.beq s.ph 1) (ja6 .next .exit .fail p s) (ja5 .next .exit .fail p s))
def Db9:Lo oa4 B9:=⟨En Ta9,0,le3,[1,1,0,1,4,4],[0,3,5,6],.p,[⟨sLq tP::sUq::sUq::sPq 0::sUq::.s (.o .nil)::sIq::ru2 55 [],[⟨0,3,true,some [kLq 3]⟩],λa H=>(⟨aLq tP a 0,hIq H 0 0 0,hIq H 0 0 1,hIq H 0 0 2⟩,⟨0,aIq a 6,0,[]⟩)⟩,⟨sLq tP::sUq::sUq::sPq 0::sUq::.s (.o (.sl 1 0 (some 0) none))::sIq::ru2 55 [],[⟨0,3,true,some [kLq 3]⟩,⟨52,3,true,none⟩],λa H=>(⟨aLq tP a 0,hIq H 0 0 0,hIq H 0 0 1,hIq H 0 0 2⟩,⟨1,aIq a 6,slN (slT a 5),elT H 1⟩)⟩],Xa5,[(some 0,λp s=>upq (Yb2 p s) [(10,i s.is6),(11,eL tP p.q8),(12,i (↑(List.length p.q8):Int)),(13,b (decide (s.is6<(↑(List.length p.q8):Int))))]),(some 0,λp s=>upq (Yb3 p s) [(10,i s.is6),(11,eL tP p.q8),(12,i (↑(List.length p.q8):Int)),(13,b (decide (s.is6<(↑(List.length p.q8):Int))))])],nd4⟩
theorem nd5:Db9.Ok:=Lo.okq [] .nil λp s=>(.sel (Nat.beq s.ph 1) (.ofq @ja6) (.ofq @ja5))
structure T8 where
 ns5:Nat
 (is7 is8:Int)
 eh0:List (List a7)
structure E0 where
 ph:Nat
 is9:Int
def Yb4(p:T8)(s:E0):St:=⟨ra 5 (.sl 0 0 p.ns5 0::.unk::i p.is7::i p.is8::i s.is9::ra 52 []),[bq 52 3 p.eh0]⟩
def Yb5(p:T8)(s:E0):St:=⟨ra 5 (nlq::.unk::i p.is7::i p.is8::i s.is9::ra 52 []),[]⟩
def nd6(p:T8)(s:E0):St:=(sel (Nat.beq s.ph 1) (Yb5 p s) (Yb4 p s))
def ja7{α:Type}(k:E0->α)(e:Nat->α)(z:α)(p:T8)(s:E0):α:=let t1:=(Ja3 (rdR tV p.eh0 (0+p.is7.toNat)) (rdR tV p.eh0 (0+p.is8.toNat)));let t2:=(Fa0 t1 (rdR tV p.eh0 (0+s.is9.toNat)));(sl (decide (s.is9<p.is8)) (sl (inB p.is7 p.ns5) (sl (ldR tV p.eh0 (0+p.is7.toNat)) (sl (inB p.is8 p.ns5) (sl (ldR tV p.eh0 (0+p.is8.toNat)) (sl (inB s.is9 p.ns5) (sl (ldR tV p.eh0 (0+s.is9.toNat)) (sl (t2 != 0) (e 1) (k ⟨0,W (s.is9+1)⟩)) z) z) z) z) z) z) (e 2))
def Yb6{α:Type}(k:E0->α)(e:Nat->α)(z:α)(p:T8)(s:E0):α:=(sl (decide (s.is9<p.is8)) z (e 3))
def Ea5(p:T8)(s:E0):Stp E0:=(sel (Nat.beq s.ph 1) (Yb6 .next .exit .fail p s) (ja7 .next .exit .fail p s))
def Eb0:Lo T8 E0:=⟨En Ta9,0,le3,[1,1,1,0,1,4,4,1,0,4,1,4,4,1,0,4,1,4,4],[5,7,8,9],.p,[⟨ru2 5 (.s (.o (.sl 0 0 (some 0) none))::sUq::sIq::sIq::sIq::ru2 52 []),[⟨52,3,true,none⟩],λa H=>(⟨slN (slT a 5),aIq a 7,aIq a 8,elT H 0⟩,⟨0,aIq a 9⟩)⟩,⟨ru2 5 (.s (.o .nil)::sUq::sIq::sIq::sIq::ru2 52 []),[],λa H=>(⟨0,aIq a 7,aIq a 8,[]⟩,⟨1,aIq a 9⟩)⟩],Ea5,[(none,λp s=>⟨[b true],[]⟩),(some 6,λp s=>upq (Yb4 p s) [(42,i s.is9),(43,i p.is8),(44,b (decide (s.is9<p.is8)))]),(some 6,λp s=>upq (Yb5 p s) [(42,i s.is9),(43,i p.is8),(44,b (decide (s.is9<p.is8)))])],nd6⟩
theorem nd7:Eb0.Ok:=Lo.okq [] .nil λp s=>(.sel (Nat.beq s.ph 1) (.ofq @Yb6) (.ofq @ja7))
structure E1 where
 (ph ns5:Nat)
 is8:Int
 eh0:List (List a7)
def Yb7(p:ra7)(s:E1):St:=⟨ra 5 (.sl 0 0 s.ns5 0::.unk::i p.is7::i s.is8::ra 53 []),[bq 52 3 s.eh0]⟩
def Yb8(p:ra7)(s:E1):St:=⟨ra 5 (nlq::.unk::i p.is7::i s.is8::ra 53 []),[]⟩
def nd8(p:ra7)(s:E1):St:=(sel (Nat.beq s.ph 1) (Yb8 p s) (Yb7 p s))
def ja8{α:Type}(k:E1->α)(e:Nat->α)(z:α)(p:ra7)(s:E1):α:=let t1:=(lp (Ea5 (⟨s.ns5,p.is7,s.is8,s.eh0⟩:T8)) (⟨0,0⟩:E0));(sl (decide (s.is8<p.is7)) (sl (Nat.beq t1.1 1) (e 1) (sl (Nat.beq t1.1 2) (k ⟨0,s.ns5,W (s.is8+1),s.eh0⟩) (sl (Nat.beq t1.1 3) (k ⟨1,0,W (s.is8+1),[]⟩) z))) (e 2))
def Yb9{α:Type}(k:E1->α)(e:Nat->α)(z:α)(p:ra7)(s:E1):α:=let t1:=(lp (Ea5 (⟨0,p.is7,s.is8,[]⟩:T8)) (⟨1,0⟩:E0));(sl (decide (s.is8<p.is7)) (sl (Nat.beq t1.1 1) (e 1) (sl (Nat.beq t1.1 2) (k ⟨0,0,W (s.is8+1),[]⟩) (sl (Nat.beq t1.1 3) (k ⟨1,0,W (s.is8+1),[]⟩) z))) (e 3))
def Ea6(p:ra7)(s:E1):Stp E1:=(sel (Nat.beq s.ph 1) (Yb9 .next .exit .fail p s) (ja8 .next .exit .fail p s))
def Eb1:Lo ra7 E1:=⟨En Ta9,0,le3,[1,1,1,0,1,4,4,1,0,4,1,4,4],[5,7,8],.s .p (.s (.b (.s .p (.b (.u Eb0.ls)))) .p),[⟨ru2 5 (.s (.o (.sl 0 0 (some 0) none))::sUq::sIq::sIq::ru2 53 []),[⟨52,3,true,none⟩],λa H=>(⟨aIq a 7⟩,⟨0,slN (slT a 5),aIq a 8,elT H 0⟩)⟩,⟨ru2 5 (.s (.o .nil)::sUq::sIq::sIq::ru2 53 []),[],λa H=>(⟨aIq a 7⟩,⟨1,0,aIq a 8,[]⟩)⟩],Ea6,[(none,λp s=>⟨[b true],[]⟩),(some 4,λp s=>upq (Yb7 p s) [(37,i s.is8),(38,i p.is7),(39,b (decide (s.is8<p.is7)))]),(some 4,λp s=>upq (Yb8 p s) [(37,i s.is8),(38,i p.is7),(39,b (decide (s.is8<p.is7)))])],nd8⟩
theorem nd9:Eb1.Ok:=Lo.okq [Eb0.pr] (.cons nd7 .nil) λp s=>(.sel (Nat.beq s.ph 1) (.ofq @Yb9) (.ofq @ja8))
structure E2 where
 ph:Nat
 is7:Int
 ns5:Nat
 eh0:List (List a7)
def Zb0(p:db4)(s:E2):St:=⟨ra 5 (nlq::.unk::i s.is7::ra 54 []),[]⟩
def Zb1(p:db4)(s:E2):St:=⟨ra 5 (.sl 0 0 s.ns5 0::.unk::i s.is7::ra 54 []),[bq 52 3 s.eh0]⟩
def od0(p:db4)(s:E2):St:=(sel (Nat.beq s.ph 1) (Zb1 p s) (Zb0 p s))
def Zb2{α:Type}(k:E2->α)(e:Nat->α)(z:α)(p:db4)(s:E2):α:=let t1:=(lp (Ea6 (⟨s.is7⟩:ra7)) (⟨1,0,0,[]⟩:E1));(sl (decide (s.is7<0)) (sl (Nat.beq t1.1 1) (e 1) (sl (Nat.beq t1.1 2) (k ⟨1,W (s.is7+1),t1.2.ns5,t1.2.eh0⟩) (sl (Nat.beq t1.1 3) (k ⟨0,W (s.is7+1),0,[]⟩) z))) (e 2))
def ja9{α:Type}(k:E2->α)(e:Nat->α)(z:α)(p:db4)(s:E2):α:=let t1:=(lp (Ea6 (⟨s.is7⟩:ra7)) (⟨0,s.ns5,0,s.eh0⟩:E1));(sl (decide (s.is7<(↑s.ns5:Int))) (sl (Nat.beq t1.1 1) (e 1) (sl (Nat.beq t1.1 2) (k ⟨1,W (s.is7+1),t1.2.ns5,t1.2.eh0⟩) (sl (Nat.beq t1.1 3) (k ⟨0,W (s.is7+1),0,[]⟩) z))) (e 3))
def L5(p:db4)(s:E2):Stp E2:=(sel (Nat.beq s.ph 1) (ja9 .next .exit .fail p s) (Zb2 .next .exit .fail p s))
def Eb2:Lo db4 E2:=⟨En Ta9,0,le3,[1,1,1,0,1,4,4],[5,7],.s .p (.s (.b (.s .p (.b (.u Eb1.ls)))) .p),[⟨ru2 5 (.s (.o .nil)::sUq::sIq::ru2 54 []),[],λa H=>(⟨⟩,⟨0,aIq a 7,0,[]⟩)⟩,⟨ru2 5 (.s (.o (.sl 0 0 (some 0) none))::sUq::sIq::ru2 54 []),[⟨52,3,true,none⟩],λa H=>(⟨⟩,⟨1,aIq a 7,slN (slT a 5),elT H 0⟩)⟩],L5,[(none,λp s=>⟨[b true],[]⟩),(some 2,λp s=>upq (Zb0 p s) [(31,i s.is7),(32,nlq),(33,i 0),(34,b (decide (s.is7<0)))]),(some 2,λp s=>upq (Zb1 p s) [(31,i s.is7),(32,.sl 0 0 s.ns5 0),(33,i (↑s.ns5:Int)),(34,b (decide (s.is7<(↑s.ns5:Int))))])],od0⟩
theorem od1:Eb2.Ok:=Lo.okq [Eb1.pr] (.cons nd9 .nil) λp s=>(.sel (Nat.beq s.ph 1) (.ofq @ja9) (.ofq @Zb2))
def fb0(x:PLq)(y:V3):ROq:=let t1:=(lp (Xa5 (⟨rt tP x,y.x,y.y,y.z⟩:oa4)) (⟨0,0,0,[]⟩:B9));let t2:=(lp (L5 (⟨⟩:db4)) (⟨0,0,0,[]⟩:E2));let t3:=(lp (L5 (⟨⟩:db4)) (⟨1,0,t1.2.ns5,t1.2.eh1⟩:E2));(sl ((cnE tP x)&&true) (sl (Nat.beq t1.1 1) (sl (Nat.beq t2.1 1) (some (b true,[])) (sl (Nat.beq t2.1 2) (some (b false,[])) (sl (Nat.beq t2.1 3) (some (b false,[])) none))) (sl (Nat.beq t1.1 2) (sl (Nat.beq t3.1 1) (some (b true,[])) (sl (Nat.beq t3.1 2) (some (b false,[])) (sl (Nat.beq t3.1 3) (some (b false,[])) none))) none)) none)
def fb1(x:PLq)(y:V3):Bool:=G5 (one r1B) (fb0 x y)
def fb2(x:PLq)(y:V3):Bool:=okO (one r1B) (fb0 x y)
def Sc1:Sum:=fa5 (Oa4 tP) (ia6 tV) (λx y=>.guard (fb2 x y) (.ret ((one r1B).enc (fb1 x y),[])))
theorem Md5:e7 prog G 116 Sc1:=Wc6 (bd Yf2 Gd4) (one r1B) (o:=fb0) λx y=>O4 (.s .p (.s .p (.s (.s .p (.b (.u Db9.ls))) (.s (.s .p (.b (.u Eb2.ls))) .p)))) [Db9.pr,Eb2.pr] (.cons nd5 (.cons od1 .nil))
def rc8:List (Nat×Sum):=[(113,hd7),(116,Sc1),(117,Ud0)]
theorem od2:j8 prog G rc8:=⟨ae4,Md5,ze9,trivial⟩
structure W5 where
 d6:List V3
 jd3:PLq
structure r7 where
 ph:Nat
 is7:Int
 Ud7:List V3
def Mb8(p:W5)(s:r7):St:=⟨eL tV p.d6::ra 3 (eL tP p.jd3::.unk::nlq::i s.is7::ra 27 []),[]⟩
def Mb9(p:W5)(s:r7):St:=⟨eL tV p.d6::ra 3 (eL tP p.jd3::.unk::eL tV s.Ud7::i s.is7::ra 27 []),[]⟩
def cd5(p:W5)(s:r7):St:=(sel (Nat.beq s.ph 1) (Mb9 p s) (Mb8 p s))
def ca6{α:Type}(k:r7->α)(e:Nat->α)(z:α)(p:W5)(s:r7):α:=let y1:=(List.length p.d6);let y0:=(gL tV p.d6 s.is7.toNat);let t1:=(fb1 (rt tP p.jd3) y0);let t2:=(xc6 [] y0);(sl (decide (s.is7<(↑y1:Int))) (sl (inB s.is7 y1) (sl (okE tP p.jd3) (sl (fb2 (rt tP p.jd3) y0) (sl t1 (sl (inB s.is7 y1) (sl (xc7 [] y0) (k ⟨1,W (s.is7+1),t2⟩) z) z) (k ⟨0,W (s.is7+1),[]⟩)) z) z) z) (e 1))
def ca7{α:Type}(k:r7->α)(e:Nat->α)(z:α)(p:W5)(s:r7):α:=let y1:=(List.length p.d6);let y0:=(gL tV p.d6 s.is7.toNat);let t1:=(fb1 (rt tP p.jd3) y0);let t2:=(xc6 (rt tV s.Ud7) y0);(sl (decide (s.is7<(↑y1:Int))) (sl (inB s.is7 y1) (sl (okE tP p.jd3) (sl (fb2 (rt tP p.jd3) y0) (sl t1 (sl (inB s.is7 y1) (sl (okE tV s.Ud7) (sl (xc7 (rt tV s.Ud7) y0) (k ⟨1,W (s.is7+1),t2⟩) z) z) z) (k ⟨1,W (s.is7+1),s.Ud7⟩)) z) z) z) (e 2))
def Pa2(p:W5)(s:r7):Stp r7:=(sel (Nat.beq s.ph 1) (ca7 .next .exit .fail p s) (ca6 .next .exit .fail p s))
def tb2:Lo W5 r7:=⟨En rc8,0,Mf6,[1,1,1,1,0,1,4,4],[0,4,6,7],.p,[⟨sLq tV::ru2 3 (sLq tP::sUq::.s (.o .nil)::sIq::ru2 27 []),[],λa H=>(⟨aLq tV a 0,aLq tP a 4⟩,⟨0,aIq a 7,[]⟩)⟩,⟨sLq tV::ru2 3 (sLq tP::sUq::sLq tV::sIq::ru2 27 []),[],λa H=>(⟨aLq tV a 0,aLq tP a 4⟩,⟨1,aIq a 7,aLq tV a 6⟩)⟩],Pa2,[(some 0,λp s=>upq (Mb8 p s) [(16,i s.is7),(17,eL tV p.d6),(18,i (↑(List.length p.d6):Int)),(19,b (decide (s.is7<(↑(List.length p.d6):Int))))]),(some 0,λp s=>upq (Mb9 p s) [(16,i s.is7),(17,eL tV p.d6),(18,i (↑(List.length p.d6):Int)),(19,b (decide (s.is7<(↑(List.length p.d6):Int))))])],cd5⟩
theorem cd6:tb2.Ok:=Lo.okq [] .nil λp s=>(.sel (Nat.beq s.ph 1) (.ofq @ca7) (.ofq @ca6))
def Ua0(x:List V3):ROq:=let t1:=(pc7 (rt tV x));let t2:=(lp (Pa2 (⟨rt tV x,rt tP t1.1⟩:W5)) (⟨0,0,[]⟩:r7));(sl (okE tV x) (sl (pc8 (rt tV x)) (sl (t1.2 != 0) (some (.tup [nlq,i t1.2],[])) (sl ((cnE tV x)&&((cnE tP t1.1)&&true)) (sl (Nat.beq t2.1 1) (some (.tup [nlq,i 0],[])) (sl (Nat.beq t2.1 2) (some (.tup [eL tV t2.2.Ud7,i 0],[])) none)) none)) none) none)
def mb3(x:List V3):List V3×Int:=G5 (two (r1L tV) r1I) (Ua0 x)
def mb4(x:List V3):Bool:=okO (two (r1L tV) r1I) (Ua0 x)
def Cc8:Sum:=G4 (Oa4 tV) (λx=>.guard (mb4 x) (.ret ((two (r1L tV) r1I).enc (mb3 x),[])))
theorem Gd5:e7 prog G 84 Cc8:=kc5 (bd b84 od2) (two (r1L tV) r1I) (o:=Ua0) λx=>O4 (.s .p (.s .p (.s .p (.s .p (.s (.s .p (.b (.u tb2.ls))) .p))))) [tb2.pr] (.cons cd6 .nil)
structure ya5 where
 (d6 kc2:List V3)
def Nb0(p:ya5)(s:O6):St:=⟨eL tV p.d6::eL tV p.kc2::ra 3 (i s.is5::ra 20 []),[]⟩
def Ca7{α:Type}(k:O6->α)(e:Nat->α)(z:α)(p:ya5)(s:O6):α:=let y1:=(gL tV p.kc2 s.is5.toNat);let y0:=(gL tV p.d6 s.is5.toNat);(sl (decide (s.is5<(↑(List.length p.d6):Int))) (sl (inB s.is5 (List.length p.d6)) (sl (inB s.is5 (List.length p.kc2)) (sl (!((y0.x==y1.x)&&((y0.y==y1.y)&&((y0.z==y1.z)&&true)))) (e 1) (k ⟨W (s.is5+1)⟩)) z) z) (e 2))
def sa5(p:ya5)(s:O6):Stp O6:=Ca7 .next .exit .fail p s
def kb8:Lo ya5 O6:=⟨En tbN,0,Lf7,[1,1,0,1,4,4],[0,1,5],.p,[⟨sLq tV::sLq tV::ru2 3 (sIq::ru2 20 []),[],λa H=>(⟨aLq tV a 0,aLq tV a 1⟩,⟨aIq a 5⟩)⟩],sa5,[(none,λp s=>⟨[b false],[]⟩),(some 0,λp s=>upq (Nb0 p s) [(11,i s.is5),(12,eL tV p.d6),(13,i (↑(List.length p.d6):Int)),(14,b (decide (s.is5<(↑(List.length p.d6):Int))))])],Nb0⟩
theorem Sc2:kb8.Ok:=Lo.okq [] .nil λp s=>(.ofq @Ca7)
def Ma2(x:List V3)(y:List V3):ROq:=let t1:=(lp (sa5 (⟨rt tV x,rt tV y⟩:ya5)) (⟨0⟩:O6));(sl ((↑(List.length x):Int) != (↑(List.length y):Int)) (some (b false,[])) (sl ((cnE tV x)&&((cnE tV y)&&true)) (sl (Nat.beq t1.1 1) (some (b false,[])) (sl (Nat.beq t1.1 2) (some (b true,[])) none)) none))
def K5(x:List V3)(y:List V3):Bool:=G5 (one r1B) (Ma2 x y)
def K6(x:List V3)(y:List V3):Bool:=okO (one r1B) (Ma2 x y)
def Eb3:Sum:=fa5 (Oa4 tV) (Oa4 tV) (λx y=>.guard (K6 x y) (.ret ((one r1B).enc (K5 x y),[])))
theorem tb3:e7 prog G 23 Eb3:=Wc6 (bd b23 Ra4) (one r1B) (o:=Ma2) λx y=>O4 (.s .p (.s .p (.s (.s .p (.b (.u kb8.ls))) .p))) [kb8.pr] (.cons Sc2 .nil)
end Go.Ev.Ce
namespace Go.Ev
open Go Go.ChangeShapes Go.RowKit
structure Gd6(w w':World):Prop where
 os:w'.os=w.os
 output:w'.output=w.output
 size:w.heap.size<=w'.heap.size
 block:∀k,k<w.heap.size->w'.heap[k]?=w.heap[k]?
theorem Gd6.kept{w w':World}(h:Gd6 w w')(may:MemPlace->Prop):w.keptBut w' may:=by
 refine⟨h.os,h.output,λi hi=>?_⟩
 rw[h.block i hi]
 grind
theorem Gd6.frozen{w w':World}(h:Gd6 w w')(b off:Nat)(hb:b<w.heap.size):w'.frozen? ⟨b,off,none⟩=w.frozen? ⟨b,off,none⟩:=by
 simp only[World.frozen?,h.block b hb]
theorem Gd6.cell{w w':World}(h:Gd6 w w')(b off:Nat)(hb:b<w.heap.size):w'.cell? ⟨b,off,none⟩=w.cell? ⟨b,off,none⟩:=by
 simp only[World.cell?,h.block b hb]
theorem Gd6.same{w w':World}(h:Gd6 w w')(p:MemPlace)(hp:p.block<w.heap.size):w.sameAt w' p:=by
 cases p with
 |cell b off=>exact h.cell b off hp
 |map b=>exact h.block b hp
section
variable{D:Type}{enc:TypeId×Value->D}{P:Program}
theorem Cc9{T:TypeId->Prop}(K:Kids P T)(hsz:∀{t e:TypeId},T t->P.underlying t=some (.slice e)->0<P.cellsOf e){w w':World}{sp:Nat->Bool}(hs:Gd6 w w') :
  ∀{ts:List TypeId} {vs:List Value} {ds:List (DataW D)} {ps:List MemPlace},(∀t∈ts,T t)->DataW.TrodAll enc P w 0 (λ_=>true) true ts vs ds ps->(∀p∈ps,p.block<w.heap.size)->(∀p∈ps,sp p.block=true)->DataW.TrodAll enc P w' 0 sp true ts vs ds ps
 |[],[],[],_,_,h,_,_=>h
 |t::ts,v::vs,d::ds,ps,ht,h,hlt,hsp=>by
  obtain⟨p,q,⟨fuel,h1⟩,h2,rfl⟩:=h;refine⟨p,q,⟨fuel,?_⟩,Cc9 K hsz hs (λt h=>ht t (by simp[h])) h2 (λx hx=>hlt x (by simp[hx])) (λx hx=>hsp x (by simp[hx])),rfl⟩
  exact DataW.trod_stays K hsz (λh=>by cases h) (ht t (by simp)) h1 (λx hx=>hs.same x (hlt x (by simp at hx ⊢;exact .inl hx))) (λx hx=>hsp x (by simp at hx ⊢;exact .inl hx))
 |[],_::_,_,_,_,h,_,_=>h.elim
 |[],[],_::_,_,_,h,_,_=>h.elim
 |_::_,[],_,_,_,h,_,_=>h.elim
 |_::_,_::_,[],_,_,h,_,_=>h.elim
theorem ef9{T:TypeId->Prop}(K:Kids P T)(hsz:∀{t e:TypeId},T t->P.underlying t=some (.slice e)->0<P.cellsOf e){f:Func}{s:ChangeSpec}{apart fresh handsOn again:Bool}{W W':World}{args:Array Value}{ds gs:List (DataW D)}{before:List MemPlace}{tb:TypeId}
  (hT:∀t∈f.params.toList,T t) (hW:DataW.Whole enc P f.params.toList s.vars apart W args.toList ds gs before) (hv:s.vars=[]) (hr:f.resultTypes=#[tb]) (hb:P.underlying tb=some .bool)
  (h1:(s.fn D ds).results=[.lit (.bool true)]) (h2:(s.fn D ds).args=ds) (h3:(s.fn D ds).vars=[]) (hs:Gd6 W W') :
  s.post enc P f apart fresh handsOn again W args (.bool true) W':=by
 have hlt:=hW.lt;obtain⟨pa,pv,hA,hV,hps,hz,hn⟩:=id hW;rw[hv] at hV;have hpv:gs=[]/\pv=[]:=by
  cases gs with
  |nil=>exact⟨rfl,hV⟩
  |cons=>exact hV.elim
 obtain⟨rfl,rfl⟩:=hpv;rw[<- Qbv ds] at h1 h3;have h2:(s.fn D (ds++[])).args=ds:=by rw[Qbv];exact h2
 have hpa:before=pa:=by rw[hps];simp
 subst hpa;have hagain:∀sp:Nat->Bool,(∀p∈before,sp p.block=true)->DataW.TrodAll enc P W' 0 sp true f.params.toList args.toList ds before:=λsp h=>Cc9 K hsz hs hT hA hlt h
 have hres:∀(b:Nat) (sp:Nat->Bool) (hd:Bool),DataW.TrodAll enc P W' b sp hd f.resultTypes.toList ((Value.bool true).resultList f.resultTypes.size) [.lit (.bool true)] []:=λb sp hd=>by
  rw[hr];exact⟨[],[],⟨1,by simp[DataW.trod,hb,Value.cells,Value.resultList]⟩,rfl,rfl⟩
 have hvars:∀sp:Nat->Bool,DataW.TrodVars enc P W' sp s.vars ([]:List (DataW D)) []:=λsp=>by rw[hv];exact rfl
 have hok:∀(j:Nat) (t:TypeId) (r:Value),f.resultTypes[j]?=some t->((Value.bool true).resultList f.resultTypes.size)[j]?=some r->Value.okWide P W' .any 0 t r:=by
  rw[hr];intro j t r h4 h5;cases j with
  |zero =>
   simp at h4
   subst h4
   have:r=.bool true:=by simpa [Value.resultList] using h5.symm
   subst this;exact okWide_bool_mk hb _
  |succ j=>simp at h4
 have hag:DataW.TrodAll enc P W' 0 (λ_=>true) true (f.resultTypes.toList++f.params.toList) ((Value.bool true).resultList f.resultTypes.size++args.toList) (.lit (.bool true)::ds) before:=by
  have:=hagain (λ_=>true) (λ_ _=>rfl)
  rw[hr];exact⟨[],before,⟨1,by simp[DataW.trod,hb,Value.cells,Value.resultList]⟩,this,rfl⟩
 refine⟨ds,[],before,[],before,[],hW,?_,?_,?_,hs.kept _,λ_=>?_⟩
 ·rw[h1];exact hres _ _ _
 ·grind
 ·rw[h3];exact hvars _
 ·refine⟨hok,.lit (.bool true)::ds,[],before,⟨before,[],hag,hvars _,by simp,?_,?_⟩,?_⟩
  ·intro b off hp;rw[hs.frozen b off (hlt _ hp)];exact hz b off (by simpa using hp)
  ·omega
  ·intro p hp _;exact hp
variable{w:World}{base:Nat}{spare:Nat->Bool}{held:Bool}
def Qe4(w:World):Fz:=λb o=>(w.cell? ⟨b,o,none⟩).isSome
def Bb3(k:IntKind)(es:Nat):List (Nat×CK):=(List.range es).map λc=>(c,.int k)
theorem Qe5(w:World):C6 (λk=>w.heap.size<=k) (λ_=>⟨0,0,0⟩) [] (Qe4 w) w :=
 ⟨λid b h=>by simp at h,λid id' b b' h=>by simp at h,λ_ _ h=>h,λ_ h=>h⟩
theorem Qe6{G:Nat->List Value}{f:FuncId}{S:Sum}(hS:e7 P G f S){aargs:List a7}{args:List Value}(hrun:∃out,(S aargs []).run=some (b true,out))(hl:aargs.length=args.length)
  (ha:∀(i:Nat) x x',aargs[i]?=some x->args[i]?=some x'->ia5 (λ_=>⟨0,0,0⟩) [] (Qe4 w) w x x') (hG:∀g (c:Nat) x,(G g)[c]?=some x->x.oneCell'=true/\w.cell? ⟨g,c,none⟩=some x) :
  Calls P f args.toArray w λe w'=>e=.returned (.bool true)/\Gd6 w w':=by
 obtain⟨out,hrun⟩:=hrun;obtain⟨_,hc⟩:=hS aargs [] (b true) out hrun (λk=>w.heap.size<=k) (λ_=>⟨0,0,0⟩) (Qe4 w) w args (Qe5 w) hl (λi x x' h1 h2=>.val (ha i x x' h1 h2)) (λg c x hx=>by
  obtain⟨h1,h2⟩:=hG g c x hx;exact⟨h1,by unfold Qe4;rw[h2];rfl,h2⟩)
 refine hc.mono λe w' ⟨r',he,ρ',F',hA,hH,hW⟩=>?_
 have:=Y4 hW
 subst this;exact⟨he,hA.ext.os,hA.ext.output,hA.ext.size,λk hk=>hA.ext.block k hk (by omega)⟩
end
end Go.Ev
namespace Go.Ev.L
open Go Go.Ev
def Rdg{α:Type}(c:Cod α)(x:a7)(a:α):Prop:=c.dec x=some a/\c.grd x=true
theorem He2(n:Int):∃a,Rdg cI (i n) a:=⟨n,rfl,rfl⟩
section
variable{α β γ δ ε:Type}{c:Cod α}{d:Cod β}{e:Cod γ}{f:Cod δ}{c5:Cod ε}{x y z w v:a7}{a:α}{b':β}{g:γ}{j:δ}{m:ε}{r:a7×List b7}
theorem bg4{k:α->β->DT (a7×List b7)}(h1:Rdg c x a)(h2:Rdg d y b')(h:(k a b').run=some r):(fa5 c d k [x,y] []).run=some r:=by
 unfold fa5;simp only[h1.1,h1.2,h2.1,h2.2];exact h
end
theorem Hf0{g p:Bool}(hg:g=true)(hp:p=true):(DT.guard g (.ret ((one r1B).enc p,([]:List b7)))).run=some (b true,([]:List b7)):=by subst hg;subst hp;rfl
def Rf0:Value->ByteArray
 |.string s=>s
 |_=>⟨#[]⟩
def ob6(H H':List b7):Prop:=∀id g,(blkAt H id g).map (λb=>(b.es,b.elems))=(blkAt H' id g).map (λb=>(b.es,b.elems))
theorem ob6.refl(H:List b7):ob6 H H:=λ_ _=>rfl
theorem ob6.disown(H:List b7)(id:Nat):ob6 (disown H id) H:=λj g=>by
 rw[Lc8];cases blkAt H j g with
 |none=>rfl
 |some b =>
  grind
theorem ob6.trans{H1 H2 H3:List b7}(h:ob6 H1 H2)(k:ob6 H2 H3):ob6 H1 H3:=λid g=>(h id g).trans (k id g)
theorem ob6.symm{H1 H2:List b7}(h:ob6 H1 H2):ob6 H2 H1:=λid g=>(h id g).symm
theorem od3{H H':List b7}(h:ob6 H H')(x:a7):(freezeCell H x).map (·.1)=(freezeCell H' x).map (·.1)/\∀y H1 H1',freezeCell H x=some (y,H1)->freezeCell H' x=some (y,H1')->ob6 H1 H1':=by
 cases x with
 |v u =>
  simp only[freezeCell]
  grind
 |tree es n get =>
  refine⟨rfl,λy H1 H1' e e'=>?_⟩
  injection e with e;injection e with _ e;injection e' with e';injection e' with _ e'
  subst e e';exact h
 |fn f caps =>
  simp only[freezeCell]
  grind
 |sl id off n g =>
  simp only[freezeCell];have hb:=h id g;cases h1:blkAt H id g with
  |none =>
   grind
  |some b =>
   cases h2:blkAt H' id g with
   |none=>rw[h1,h2] at hb;cases hb
   |some b' =>
    rw[h1,h2] at hb;simp only[Option.map_some] at hb;injection hb with hb;injection hb with e1 e2
    refine⟨by simp only[Option.map_some,bc4,e1,e2],λy H1 H1' e e'=>?_⟩
    injection e with e;injection e with _ e;injection e' with e';injection e' with _ e'
    subst e e';exact (ob6.disown H id).trans (h.trans (ob6.disown H' id).symm)
 |_=>exact⟨rfl,λy H1 H1' e=>by cases e⟩
theorem Zb3:∀(cs:List a7) {H H':List b7},ob6 H H'->(freezeCells H cs).map (·.1)=(freezeCells H' cs).map (·.1)
 |[],H,H',h=>rfl
 |x::r,H,H',h=>by
  obtain⟨h1,h2⟩:=od3 h x;simp only[freezeCells];cases e1:freezeCell H x with
  |none =>
   grind
  |some p =>
   cases e2:freezeCell H' x with
   |none=>rw[e1,e2] at h1;cases h1
   |some q =>
    rw[e1,e2] at h1;obtain⟨y,H1⟩:=p;obtain⟨y',H1'⟩:=q;simp only[Option.map_some] at h1;injection h1 with h1;subst h1
    have:=Zb3 r (h2 _ _ _ e1 e2)
    grind
theorem Gd7{H H':List b7}{x y:a7}(h:freezeCell H x=some (y,H')):Dis H H':=by
 cases x with
 |v u =>
  simp only[freezeCell] at h;cases hu:jd4 u with
  |true=>rw[hu] at h;injection h with h;injection h with _ h;subst h;exact .refl
  |false=>rw[hu] at h;cases h
 |tree es n get=>injection h with h;injection h with _ h;subst h;exact .refl
 |fn f caps =>
  simp only[freezeCell] at h;cases hu:Na9 Ic8 caps with
  |true=>rw[hu] at h;injection h with h;injection h with _ h;subst h;exact .refl
  |false=>rw[hu] at h;cases h
 |sl id off n g =>
  simp only[freezeCell] at h;cases h1:blkAt H id g with
  |none=>rw[h1] at h;cases h
  |some b=>rw[h1] at h;injection h with h;injection h with _ h;subst h;exact .step id .refl
 |_=>cases h
theorem Dis.app{H H1 H2:List b7}(h:Dis H H1)(k:Dis H1 H2):Dis H H2:=by
 induction k with
 |refl=>exact h
 |step id _ ih=>exact .step id ih
theorem ic6:∀{cs l:List a7} {H H':List b7},freezeCells H cs=some (l,H')->Dis H H'
 |[],l,H,H',h=>by
  injection h with h;injection h with _ h;subst h;exact .refl
 |x::r,l,H,H',h=>by
  simp only[freezeCells] at h;cases e1:freezeCell H x with
  |none=>rw[e1] at h;cases h
  |some p =>
   obtain⟨y,H1⟩:=p;rw[e1] at h
   simp only at h
   cases e2:freezeCells H1 r with
   |none=>rw[e2] at h;cases h
   |some q =>
    obtain⟨l2,H2⟩:=q;rw[e2] at h
    simp only at h
    injection h with h;injection h with _ h;subst h
    exact (Gd7 e1).app (ic6 e2)
section
variable{α:Type}(t:Ty α)
def r1S:R1 α where
 enc x:=.agg (t.row x)
 rd H x:=match x with
  |.agg cs=>Option.rec (motive:=λ_=>Option α) none (λp=>Bool.rec (motive:=λ_=>Option α) none (some (t.rd p)) (t.ok p)) ((freezeCells H cs).map (·.1))
  |_=>none
 d:=t.d
 le H x r h:=by
  split at h
  ·rename_i cs;cases hf:freezeCells H cs with
   |none=>rw[hf] at h;cases h
   |some q =>
    obtain⟨l,H'⟩:=q;rw[hf] at h;simp only[Option.map_some] at h;cases hb:t.ok l with
    |false=>rw[hb] at h;cases h
    |true =>
     rw[hb] at h;have h:some (t.rd l)=some r:=h;injection h with h;subst h;have h3:=t.h3 l hb;refine⟨.agg l,H',by simp only[Ba3,hf],ic6 hf,λρ' H2 F w v hv=>?_⟩
     obtain⟨vs,rfl,hl,hr⟩:=Ba2 (.val hv);refine .agg _ _ (by rw[<- h3.length];exact hl) λi y v' hy hv'=>?_
     obtain⟨x,hx,hle⟩:=h3.get i y hy;exact hle.c _ _ _ _ _ (hr i x v' hx hv')
  ·cases h
 dis H id x:=by
  cases x with
  |agg cs=>simp only[Zb3 cs (ob6.disown H id)]
  |_=>rfl
def ff0(es:Nat):a7->Bool
 |.tree e _ _=>Nat.beq e es
 |.v (.slice none 0 0)=>true
 |_=>false
def bg5(sh:List a7->Bool):Cod α where
 enc x:=.agg (t.row x)
 dec x:=match x with
  |.agg cs=>Bool.rec (motive:=λ_=>Option α) none (some (t.rd cs)) (sh cs)
  |_=>none
 grd x:=match x with
  |.agg cs=>t.ok cs
  |_=>false
 ok x a hx hg:=by
  split at hx
  ·rename_i cs;cases hb:sh cs with
   |false=>rw[hb] at hx;cases hx
   |true =>
    rw[hb] at hx;have hx:some (t.rd cs)=some a:=hx;injection hx with hx;subst hx;have h3:=t.h3 cs hg;intro ρ H F w v hv;obtain⟨vs,rfl,hl,hr⟩:=Ba2 hv;refine .val (.agg _ _ (by rw[<- h3.length];exact hl) λi y v' hy hv'=>?_)
    obtain⟨x,hx,hle⟩:=h3.get i y hy;exact hle.c _ _ _ _ _ (hr i x v' hx hv')
  ·cases hx
end
end Go.Ev.L
namespace Go.Ev.Ce
open Go Go.Ev Go.Ev.L Go.Proofs
theorem hd1{x y:a7}(h:nc4 [x] [y]):CLe x y:=by cases h with | cons h _=>exact h
structure Tol where
 nm:ByteArray
 ou:List V3
 inn:List (List V3)
 ho:List V3
 li:List Int
 ru:Int
 fo:List V3
def xf6:List a7->Bool
 |[.v (.string _),x1,x2,x3,x4,.v (.int .i64 _),x6]=>Bool.and ((tLs tV).ok [x1]) (Bool.and ((tLs (tLs tV)).ok [x2]) (Bool.and ((tLs tV).ok [x3]) (Bool.and ((tLs tI).ok [x4]) (Bool.and ((tLs tV).ok [x6]) (true)))))
 |_=>false
def tT:Ty Tol where
 es:=7
 row x:=[.v (.string x.nm),eL tV x.ou,eL (tLs tV) x.inn,eL tV x.ho,eL tI x.li,i x.ru,eL tV x.fo]
 rd r:=⟨Rf0 (toV (hdA r)),rL tV (hdA (tlA r)),rL (tLs tV) (hdA (tlA (tlA r))),rL tV (hdA (tlA (tlA (tlA r)))),rL tI (hdA (tlA (tlA (tlA (tlA r))))),toI (hdA (tlA (tlA (tlA (tlA (tlA r)))))),rL tV (hdA (tlA (tlA (tlA (tlA (tlA (tlA r)))))))⟩
 ok:=xf6
 cks:=[.any,.sl 3,.sl 1,.sl 3,.sl 1,.int .i64,.sl 3]
 d:=⟨⟨#[]⟩,[],[],[],[],0,[]⟩
 h0 _:=rfl
 h1 x:=by
  show Tol.mk x.nm (rL tV (eL tV x.ou)) (rL (tLs tV) (eL (tLs tV) x.inn)) (rL tV (eL tV x.ho)) (rL tI (eL tI x.li)) x.ru (rL tV (eL tV x.fo))=x;rw[show rL tV (eL tV x.ou)=x.ou from g8 tV x.ou,show rL (tLs tV) (eL (tLs tV) x.inn)=x.inn from g8 (tLs tV) x.inn,show rL tV (eL tV x.ho)=x.ho from g8 tV x.ho,show rL tI (eL tI x.li)=x.li from g8 tI x.li,show rL tV (eL tV x.fo)=x.fo from g8 tV x.fo]
 h2 x:=by
  show Bool.and ((tLs tV).ok ((tLs tV).row x.ou)) (Bool.and ((tLs (tLs tV)).ok ((tLs (tLs tV)).row x.inn)) (Bool.and ((tLs tV).ok ((tLs tV).row x.ho)) (Bool.and ((tLs tI).ok ((tLs tI).row x.li)) (Bool.and ((tLs tV).ok ((tLs tV).row x.fo)) (true)))))=true;rw[(tLs tV).h2 x.ou,(tLs (tLs tV)).h2 x.inn,(tLs tV).h2 x.ho,(tLs tI).h2 x.li,(tLs tV).h2 x.fo];rfl
 h3 r h:=by
  unfold xf6 at h
  split at h
  ·rename_i _ x1 x2 x3 x4 _ x6;simp only[Qas] at h;obtain⟨h1,h2,h3,h4,h6,_⟩:=h;have c1:=(tLs tV).h3 _ h1;have c2:=(tLs (tLs tV)).h3 _ h2;have c3:=(tLs tV).h3 _ h3;have c4:=(tLs tI).h3 _ h4;have c6:=(tLs tV).h3 _ h6;exact .cons (.refl _) (.cons (hd1 c1) (.cons (hd1 c2) (.cons (hd1 c3) (.cons (hd1 c4) (.cons (.refl _) (.cons (hd1 c6) (.nil)))))))
  ·cases h
 h4 _:=rfl
 h5 _:=rfl
def r1T:R1 Tol:=r1S tT
def Rf1:List a7->Bool
 |[.v (.string _),x1,x2,x3,x4,.v (.int .i64 _),x6]=>Bool.and (ff0 3 x1) (Bool.and (ff0 1 x2) (Bool.and (ff0 3 x3) (Bool.and (ff0 1 x4) (Bool.and (ff0 3 x6) (true)))))
 |_=>false
def cT:Cod Tol:=bg5 tT Rf1
def hb7{ρ σ τ υ:Type}(a:R1 ρ)(c:R1 σ)(e:R1 τ)(f:R1 υ):RR (ρ×σ×τ×υ) where
 enc r:=.tup [a.enc r.1,c.enc r.2.1,e.enc r.2.2.1,f.enc r.2.2.2]
 rd r:=match r.1 with
  |.tup [x,y,z,o]=>Option.rec (motive:=λ_=>Option (ρ×σ×τ×υ)) none (λu=>Option.rec (motive:=λ_=>Option (ρ×σ×τ×υ)) none (λv=>Option.rec (motive:=λ_=>Option (ρ×σ×τ×υ)) none (λw=>Option.rec (motive:=λ_=>Option (ρ×σ×τ×υ)) none (λq=>some (u,v,w,q)) (f.rd r.2 o)) (e.rd r.2 z)) (c.rd r.2 y)) (a.rd r.2 x)
  |_=>none
 d:=(a.d,c.d,e.d,f.d)
 le q o r h:=by
  split at h
  ·rename_i x y z s e0
   simp only at e0
   subst e0;cases hu:a.rd o x with
   |none=>rw[hu] at h;cases h
   |some u =>
   cases hv:c.rd o y with
   |none=>rw[hu,hv] at h;cases h
   |some v =>
   cases hw:e.rd o z with
   |none=>rw[hu,hv,hw] at h;cases h
   |some w =>
   cases hs:f.rd o s with
   |none=>rw[hu,hv,hw,hs] at h;cases h
   |some t =>
   rw[hu,hv,hw,hs] at h;have h:some (u,v,w,t)=some r:=h;injection h with h;subst h;obtain⟨z1,H1,h1,d1,l1⟩:=a.le o x u hu;obtain⟨z2,H2,h2,d2,l2⟩:=c.le H1 y v (by rw[c.diss d1];exact hv)
   obtain⟨z3,H3,h3,d3,l3⟩:=e.le H2 z w (by rw[e.diss d2,e.diss d1];exact hw)
   obtain⟨z4,H4,h4,d4,l4⟩:=f.le H3 s t (by rw[f.diss d3,f.diss d2,f.diss d1];exact hs)
   refine⟨.tup [z1,z2,z3,z4],by simp only[Gc5,mb9,h1,h2,h3,h4],ALe.tup rfl λk p q hp hq=>?_⟩
   match k,hp,hq with
   |0,hp,hq=>cases hp;cases hq;exact l1
   |1,hp,hq=>cases hp;cases hq;exact l2
   |2,hp,hq=>cases hp;cases hq;exact l3
   |3,hp,hq=>cases hp;cases hq;exact l4
  ·cases h
end Go.Ev.Ce
namespace Go.Proofs
open Go.Shelf
def Ce.trimP_ren:Go.Shelf.Ren:=⟨fun | 160=>66 | 232=>102 | 231=>101 | 227=>103 | 234=>105 | 233=>104 | 236=>107 | 235=>106 | 228=>135 | 271=>138 | 151=>137 | 197=>136 | 120=>165 | 152=>164 | 260=>163 | 137=>172 | 119=>173 | 224=>174 | 225=>175 | 217=>177 | 266=>178 | n=>n,fun | 9=>9 | 4=>4 | 3=>3 | 5=>5 | 117=>125 | 116=>124 | 0=>0 | 124=>128 | 21=>21 | 105=>151 | 46=>119 | 119=>174 | 139=>177 | 138=>176 | n=>n,fun | 3=>0 | 4=>1 | n=>n⟩
theorem Ce.trimP:Go.Proofs.Lays.n160 Tryz.prog Ce.trimP_ren:={
 mixed:=by kernel_rfl
 f119:=Tryz.func173.trans (congrArg some (by kernel_rfl))
 f120:=Tryz.func165.trans (congrArg some (by kernel_rfl))
 f137:=Tryz.func172.trans (congrArg some (by kernel_rfl))
 f151:=Tryz.func137.trans (congrArg some (by kernel_rfl))
 f152:=Tryz.func164.trans (congrArg some (by kernel_rfl))
 f160:=Tryz.func66.trans (congrArg some (by kernel_rfl))
 f197:=Tryz.func136.trans (congrArg some (by kernel_rfl))
 f217:=Tryz.func177.trans (congrArg some (by kernel_rfl))
 f224:=Tryz.func174.trans (congrArg some (by kernel_rfl))
 f225:=Tryz.func175.trans (congrArg some (by kernel_rfl))
 f227:=Tryz.func103.trans (congrArg some (by kernel_rfl))
 f228:=Tryz.func135.trans (congrArg some (by kernel_rfl))
 f231:=Tryz.func101.trans (congrArg some (by kernel_rfl))
 f232:=Tryz.func102.trans (congrArg some (by kernel_rfl))
 f233:=Tryz.func104.trans (congrArg some (by kernel_rfl))
 f234:=Tryz.func105.trans (congrArg some (by kernel_rfl))
 f235:=Tryz.func106.trans (congrArg some (by kernel_rfl))
 f236:=Tryz.func107.trans (congrArg some (by kernel_rfl))
 f260:=Tryz.func163.trans (congrArg some (by kernel_rfl))
 f266:=Tryz.func178.trans (congrArg some (by kernel_rfl))
 f271:=Tryz.func138.trans (congrArg some (by kernel_rfl))
 t0:=Tryz.underlying0
 a0:=Tryz.isAgg0
 z0:=Tryz.sizeOf0
 v0:=Tryz.zeroValue0
 t3:=Tryz.underlying3
 a3:=Tryz.isAgg3
 z3:=Tryz.sizeOf3
 v3:=Tryz.zeroValue3
 t4:=Tryz.underlying4
 a4:=Tryz.isAgg4
 z4:=Tryz.sizeOf4
 v4:=Tryz.zeroValue4
 t5:=Tryz.underlying5
 a5:=Tryz.isAgg5
 z5:=Tryz.sizeOf5
 v5:=Tryz.zeroValue5
 t9:=Tryz.underlying9
 a9:=Tryz.isAgg9
 z9:=Tryz.sizeOf9
 v9:=Tryz.zeroValue9
 t21:=Tryz.underlying21
 a21:=Tryz.isAgg21
 z21:=Tryz.sizeOf21
 v21:=Tryz.zeroValue21
 t46:=Tryz.underlying119
 a46:=Tryz.isAgg119
 z46:=Tryz.sizeOf119
 v46:=Tryz.zeroValue119
 t105:=Tryz.underlying151
 a105:=Tryz.isAgg151
 z105:=Tryz.sizeOf151
 v105:=Tryz.zeroValue151
 t116:=Tryz.underlying124
 a116:=Tryz.isAgg124
 z116:=Tryz.sizeOf124
 t117:=Tryz.underlying125
 a117:=Tryz.isAgg125
 z117:=Tryz.sizeOf125
 v117:=Tryz.zeroValue125
 t119:=Tryz.underlying174
 a119:=Tryz.isAgg174
 z119:=Tryz.sizeOf174
 t124:=Tryz.underlying128
 a124:=Tryz.isAgg128
 z124:=Tryz.sizeOf128
 v124:=Tryz.zeroValue128
 t138:=Tryz.underlying176
 a138:=Tryz.isAgg176
 z138:=Tryz.sizeOf176
 v138:=Tryz.zeroValue176
 t139:=Tryz.underlying177
 a139:=Tryz.isAgg177
 z139:=Tryz.sizeOf177
 v139:=Tryz.zeroValue177
 g3:=by kernel_rfl
 g4:=by kernel_rfl }
end Go.Proofs
namespace Go.Ev.Ce
open Go Go.Ev Go.Proofs
theorem Qe7{w':World}(w:World)(A B:Obj)(q:Nat)(h:w'=((w.alloc A).alloc B).drewN q):w'.os=w.os/\w'.tape=w.tape/\w'.output=w.output/\w.heap.size<=w'.heap.size/\(∀k,k<w.heap.size->w'.heap[k]?=w.heap[k]?)/\w.drawn<=w'.drawn:=by
 have e:w'.heap=(w.heap.push A).push B:=by rw[h];rfl
 refine⟨by rw[h];rfl,by rw[h];rfl,by rw[h];rfl,?_,λk hk=>?_,?_⟩
 ·rw[e,Qjk,Qjk];omega
 ·rw[e,Qau,if_neg (by rw[Qjk];omega),Qau,if_neg (by omega)]
 ·rw[h];exact Nat.le_add_right _ _
def He3(s c:ByteArray):ByteArray:=⟨(Go.Lib.trimS s.data.toList c.data.toList).toArray⟩
def pe0(s c:ByteArray):Bool:=Bool.and (Bool.and (Nat.blt 0 s.size) (Nat.ble s.size 9223372036854775807)) (Bool.and (Bool.and (Nat.blt 1 c.size) (Nat.blt c.size 4294967281)) (c.data.toList.all λb=>decide (b.toNat<128)))
def Eb4:Sum:=λargs blks=>match args,blks with
 |[.v (.string s),.v (.string c)],[]=>.guard (pe0 s c) (.ret (.v (.string (He3 s c)),[]))
 |_,_=>.fail
theorem f160:Ce.trimP_ren.f 160=66:=by kernel_rfl
set_option maxRecDepth 100000 in
theorem od4:e7 prog G 66 Eb4:=by
 intro args blks r out he W ρ F w args' hH hlen hargs hG;refine⟨⟨_,Tryz.func66,by kernel_rfl,of_decide_eq_true (by kernel_rfl)⟩,?_⟩
 unfold Eb4 at he
 split at he
 case h_2=>cases he
 rename_i s c
 match args',hlen with
 |[v0,v1],_ =>
 have e0:=Y4 (hargs 0 _ _ rfl rfl);have e1:=Y4 (hargs 1 _ _ rfl rfl);subst e0 e1;obtain⟨hg,he⟩:=DT.run_guard_some he;unfold pe0 at hg;simp only[Qas] at hg;obtain⟨⟨g1,g2⟩,⟨g3,g4⟩,g5⟩:=hg;have he:some (a7.v (.string (He3 s c)),([]:List b7))=some (r,out):=he;injection he with he;injection he with q1 q2;subst q1 q2
 have h116:(Tryz.prog.info? (Ce.trimP_ren.t 116)).map (λi=>(i.zero,i.size))=some (some (.agg (Array.replicate 256 (.bool false))),256):=by kernel_rfl
 have:=Any.strings_Trim_set Ce.trimP (zero_of_info h116).1 (zero_of_info h116).2 s c w (Qae g3) (Qae g1) (Qae g2) (Qae g4) (ascii_of_all g5)
 rw[f160] at this;refine this.mono λe w' ⟨h1,q,hb⟩=>?_
 subst h1;obtain⟨k1,k2,k3,hws,hold,k6⟩:=Qe7 w _ _ q hb;have hcell:∀b o,F b o->w'.cell? ⟨b,o,none⟩=w.cell? ⟨b,o,none⟩:=λb o hf=>by
  have:=hold b (Jb8 (hH.frz b o hf))
  simp[World.cell?,this]
 refine⟨_,rfl,ρ,F,⟨⟨k1,k2,k3,hws,λk hk _=>hold k hk,hcell,k6⟩,.refl,λ_ _ h=>h,λ_ _ h=>.inl h,λ_ b h hn=>absurd rfl (hn b h)⟩,?_,.ofv _⟩
 exact⟨λid b hb hd=>(hH.blk id b hb hd).elim λcc h=>h.elim λt h=>h.elim λfr hB=>⟨cc,t,fr,hB.keep (hold _ hB.lt) hcell⟩,hH.apart,λb o hf=>by rw[hcell b o hf];exact hH.frz b o hf,λk hk=>hH.new k (by omega)⟩
end Go.Ev.Ce
