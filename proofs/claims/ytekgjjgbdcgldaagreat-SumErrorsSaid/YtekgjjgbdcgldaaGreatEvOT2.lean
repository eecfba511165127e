/- Own work. -/
import Derived.Test.YtekgjjgbdcgldaaGreatEvOJ2
import Derived.ChangeStays
import Derived.ChangeSame
import Derived.OpenShut
import Derived.RowKit
set_option linter.all false
def Qla:=@List.length_append
def Qlb:=@Nat.lt_irrefl
def Qlc:=@List.length_take
def Qld:=@List.any_eq_true
def Qle:=@Nat.zero_add
def Qlf:=@Nat.zero_le
def Qlg:=@Bool.and_eq_true
def Qlh:=@Bool.false_eq_true
def Qli:=@List.all_eq_true
def Qlj:=@List.append_nil
def Qlk:=@List.drop_zero
def Qll:=@Nat.le_refl
def Qlm:=@List.getElem?_eq_getElem
def Qln:=@Option.bind_eq_some_iff
def Qlo:=@List.filter_append
def Qlp:=@List.mem_filter
def Qlq:=@List.take_append_of_le_length
def Qlr:=@List.mem_range
def Qls:=@List.findIdx_getElem
def Qlt:=@List.filter_cons
def Qlu:=@List.getD_eq_getElem?_getD
def Qlv:=@List.getElem?_range
def Qlw:=@List.mem_cons
def Qlx:=@List.take_succ_eq_append_getElem
def Qly:=@Bool.not_eq_true
def Qlz:=@List.findIdx_lt_length_of_exists
def Qlaa:=@List.length_filter_le
def Qlab:=@List.length_set
def Qlac:=@List.pairwise_cons
def Qlad:=@List.getElem?_take
def Qlae:=@List.mem_singleton
def Qlaf:=@Bool.and_self
def Qlag:=@List.drop_eq_getElem_cons
def Qlah:=@Nat.ble_eq
def Qlai:=@List.length_drop
def Qlaj:=@Nat.beq_refl
def Qlak:=@List.take_length
def Qlal:=@List.mem_append
def Qlam:=@List.drop_eq_nil_of_le
def Qlan:=@Option.map_eq_some_iff
def Qlao:=@List.getElem_set_self
def Qlap:=@List.take_take
def Qlaq:=@List.length_replicate
namespace Go.Ev.Ce
open Go Go.Ev Go.Ev.L Go.Proofs Go.Sort
def eqV(x y:V3):Bool:=x.x==y.x&&(x.y==y.y&&(x.z==y.z&&true))
theorem Yc8(x y:V3):eqV x y=true↔x=y:=by
 unfold eqV;simp only[Bool.and_true,Qlg,beq_iff_eq];refine⟨λ⟨h1,h2,h3⟩=>V3.ext' h1 h2 h3,λh=>by subst h;exact⟨rfl,rfl,rfl⟩⟩
theorem ne8{l:List V3}{j:Nat}(h:j<l.length):ldR tV (bL tV l) (0+j)=true:=by rw[Qle];exact Me6 tV h
theorem Md8{l:List V3}{j:Nat}(h:j<l.length):rdR tV (bL tV l) (0+j)=gL tV l j:=by rw[Qle];exact Me5 tV h
theorem Fe0(l:List V3)(n:Nat):M7 (bL tV l) n=bL tV (l.take n):=by unfold bL;rw[N5,o7,o7,List.map_take]
theorem Md9(l:List V3)(n:Nat):j8 (bL tV l) n=bL tV (l.drop n):=by unfold bL;rw[L2,o7,o7,List.map_drop]
theorem Fe1(n:Nat):List.replicate n [i 0,i 0,i 0]=bL tV (List.replicate n ⟨0,0,0⟩):=by unfold bL;rw[o7,List.map_replicate];rfl
def dvF:V3->List V3->List V3
 |_,[]=>[]
 |a,x::l=>if eqV x a then dvF x l else x::dvF x l
def ddV:List V3->List V3
 |[]=>[]
 |x::l=>x::dvF x l
structure Af7(l:List V3)(n:Nat)(cur:List V3)(m j:Nat)(R:List V3):Prop where
 len:cur.length=l.length
 t:cur.take m++dvF (gL tV l (j-1)) ((l.take n).drop j)=R
 d:cur.drop (j-1)=l.drop (j-1)
 le:m+1<=j
theorem Wd0 (l : List V3) (n o : Nat) (hn : n ≤ l.length) (hl : l.length ≤ 1000000000) (ho : o < n) (m : Nat) (cur : List V3) (R : List V3) (hd : Af7 l n cur m (o + 1) R) :
  ∃t s,lp (w8 ⟨n,0+o,n-o⟩) ⟨(m:Int),((1:Nat):Int),bL tV cur⟩=(t,s)/\(t=1/\∃m' cur' k,s=⟨((m':Nat):Int),k,bL tV cur'⟩/\cur'.length=l.length/\cur'.take m'=R/\m'<=n):=by
 refine P5 (step:=w8 ⟨n,0+o,n-o⟩) (mk:=λj (x:Nat×List V3)=>(⟨(x.1:Int),(j:Int),bL tV x.2⟩:u7)) (n-o) (λj x=>Af7 l n x.2 x.1 (o+j) R/\1<=j/\x.1<=n) (λt s=>t=1/\∃m' cur' k,s=⟨((m':Nat):Int),k,bL tV cur'⟩/\cur'.length=l.length/\cur'.take m'=R/\m'<=n) (by omega) (λj x hj hx=>?_) (λj x hj hx=>?_) 1 (m,cur) ⟨hd,Qll _,by have:=hd.le;show m<=n;omega⟩
 ·obtain⟨m,cur⟩:=x;obtain⟨⟨h1,h2,h3,h4⟩,hj1,hmn⟩:=hx
  simp only at h1 h2 h3 h4 hmn
  have hoj:o+j<n:=by omega
  have hjc:o+j<cur.length:=by omega
  have hjc':o+(j-1)<cur.length:=by omega
  have hmc:m<cur.length:=by omega
  have hg':gL tV cur (o+(j-1))=gL tV l (o+j-1):=by rw[show o+(j-1)=o+j-1 by omega];exact id6 tV h3
  have hd1:cur.drop (o+j)=l.drop (o+j):=by have:=Xc8 h3 1;rw[show o+j-1+1=o+j by omega] at this;exact this
  have hg:gL tV cur (o+j)=gL tV l (o+j):=id6 tV hd1;have hWm:W ((m:Int)+1)=((m+1:Nat):Int):=by rw[E4 (by omega) (by omega)];omega
  have hWj:W ((j:Int)-1)=((j-1:Nat):Int):=by rw[E4 (by omega) (by omega)];omega
  have hb:Nat.blt m cur.length=true:=by rw[Nat.blt_eq];exact hmc
  have hrow:o0 (bL tV cur) m=tV.row (gL tV cur m):=pa5 tV hmc;have sp:∀(v:V3) (x1 x2 x3:Int),da4 (tV.row v) 0 [i x1,i x2,i x3]=tV.row ⟨x1,x2,x3⟩:=λ_ _ _ _=>rfl
  have rl:∀v:V3,Nat.ble 3 (len (tV.row v))=true:=λ_=>rfl
  simp only[w8,S8,Int.toNat_natCast,Qle,hWj,Me6 tV hjc,Me6 tV hjc',Me5 tV hjc,Me5 tV hjc',m9 hj (show n-o<=4611686018427387904 by omega),hWm,hg,hg',hrow,V2,hb,sp,rl,sc9,f9 (show m<n by omega)]
  rw[btD (i8 hj)];simp only[f9 hj,f9 (show j-1<n-o by omega),l9,Qlaf]
  rw[show ((gL tV l (o+j)).x==(gL tV l (o+j-1)).x&&((gL tV l (o+j)).y==(gL tV l (o+j-1)).y&&((gL tV l (o+j)).z==(gL tV l (o+j-1)).z&&true)))=eqV (gL tV l (o+j)) (gL tV l (o+j-1)) from rfl]
  have hcons:(l.take n).drop (o+j)=gL tV l (o+j)::(l.take n).drop (o+(j+1)):=by
   rw[Qlag (by rw[Qlc];omega),List.getElem_take,Ma0 tV (by omega)]
   rfl
  rw[hcons] at h2;have hlast:o+(j+1)-1=o+j:=by omega
  unfold dvF at h2;cases he:eqV (gL tV l (o+j)) (gL tV l (o+j-1)) with
  |true =>
   rw[he] at h2;simp only[if_true] at h2;refine .nx ⟨(m,cur),rfl,⟨⟨h1,?_,?_,by show m+1<=o+(j+1);omega⟩,by omega,hmn⟩⟩
   ·rw[hlast];exact h2
   ·rw[hlast];exact hd1
  |false =>
   rw[he] at h2;simp only[Qlh,if_false] at h2;refine .nx ⟨(m+1,cur.set m (gL tV l (o+j))),rfl,⟨⟨by rw[Qlab];exact h1,?_,?_,by show m+1+1<=o+(j+1);omega⟩,by omega,by show m+1<=n;omega⟩⟩
   ·rw[hlast];show (cur.set m (gL tV l (o+j))).take (m+1)++_=R;rw[Qlx (by rw[Qlab];exact hmc),Qlao,List.take_set_of_le (Qll _),List.append_assoc]
    exact h2
   ·rw[hlast];show (cur.set m (gL tV l (o+j))).drop (o+j)=_;rw[List.drop_set_of_lt (by omega),hd1]
 ·obtain⟨m,cur⟩:=x;obtain⟨⟨h1,h2,h3,h4⟩,hj1,hmn⟩:=hx
  simp only at h1 h2 h3 h4 hmn
  refine⟨1,?_,rfl,m,cur,_,rfl,h1,?_,hmn⟩
  ·simp only[w8,S8];rw[bfD (by omega)]
  ·rw[Qlam (by rw[Qlc];omega)] at h2
   unfold dvF at h2;rw[Qlj] at h2;exact h2
theorem Fe2 (l : List V3) (n : Nat) (hn : n ≤ l.length) (hl : l.length ≤ 1000000000) :
  ∃m r,W4 ⟨n,bL tV l⟩=⟨1,m,bL tV r⟩/\m<=r.length/\r.take m=ddV (l.take n)/\r.length=l.length:=by
 unfold W4 W0
 simp only
 by_cases h2:(n:Int)<2
 ·rw[btD h2];refine⟨n,l,rfl,hn,?_,rfl⟩
  have:n=0\/n=1:=by omega
  rcases this with rfl|rfl
  ·rfl
  ·cases l with
   |nil=>rfl
   |cons x l=>rfl
 ·rw[bfD h2];have h1n:1<=n:=by omega
  have hI : ∀ j, j < n → 1 ≤ j → l.take j ++ dvF (gL tV l (j - 1)) ((l.take n).drop j) = ddV (l.take n) →
    (eqV (gL tV l j) (gL tV l (j-1))=true->Af7 l n l j (j+1) (ddV (l.take n)))/\(eqV (gL tV l j) (gL tV l (j-1))=false->l.take (j+1)++dvF (gL tV l (j+1-1)) ((l.take n).drop (j+1))=ddV (l.take n)):=by
   intro j hj hj1 hR;have hcons:(l.take n).drop j=gL tV l j::(l.take n).drop (j+1):=by
    rw[Qlag (by rw[Qlc];omega),List.getElem_take,Ma0 tV (by omega)]
   rw[hcons] at hR;unfold dvF at hR;constructor
   ·intro he;rw[he] at hR;simp only[if_true] at hR;exact⟨rfl,hR,rfl,Qll _⟩
   ·intro he;rw[he] at hR;simp only[Qlh,if_false] at hR;rw[Gb2 tV (show j<l.length by omega),List.append_assoc]
    exact hR
  have inner:∀k,k<n->1<=k->Af7 l n l k (k+1) (ddV (l.take n))->∃m' cur' k',lp (w8 ⟨n,0+k,n-k⟩) ⟨(k:Int),1,bL tV l⟩=(1,⟨((m':Nat):Int),k',bL tV cur'⟩)/\cur'.length=l.length/\cur'.take m'=ddV (l.take n)/\m'<=n:=by
   intro k hk hk1 hc;obtain⟨t,s,e1,rfl,m',cur',k',rfl,e2,e3,e4⟩:=Wd0 l n k hn hl hk k l _ hc;exact⟨m',cur',k',e1,e2,e3,e4⟩
  have key:=P5 (step:=V9 ⟨n,bL tV l⟩) (mk:=λj (_:Unit)=>(⟨(j:Int)⟩:z8)) n (λj _=>1<=j/\j<=n/\l.take j++dvF (gL tV l (j-1)) ((l.take n).drop j)=ddV (l.take n))
   (λt s=>(t=1/\∃k:Nat,s=⟨(k:Int)⟩/\k<n/\1<=k/\Af7 l n l k (k+1) (ddV (l.take n)))\/(t=2/\l.take n=ddV (l.take n))) (by omega) (λj x hj hx=>?_) (λj x hj hx=>?_) 1 () ⟨Qll _,h1n,by
    cases l with
    |nil=>simp only[List.length_nil] at hn;omega
    |cons x l =>
     cases n with
     |zero=>omega
     |succ n=>rfl⟩
  ·obtain⟨t,s,e1,e2⟩:=key;rw[show (⟨1⟩:z8)=⟨((1:Nat):Int)⟩ from rfl,e1]
   rcases e2 with⟨rfl,k,rfl,hk,hk1,hc⟩|⟨rfl,he⟩
   ·obtain⟨m',cur',k',e2,e3,e4,e5⟩:=inner k hk hk1 hc;simp only[Int.toNat_natCast,e2];simp only[Qle,Nat.sub_zero];refine⟨m',cur'.take m'++(List.replicate (n-m') ⟨0,0,0⟩++cur'.drop (m'+(n-m'))),?_,?_,?_,?_⟩
    ·rw[Fe0,Fe1,Md9,Ka4,Ka4];rfl
    ·rw[Qla,Qlc,e3];omega
    ·rw[Qlq (by rw[Qlc,e3];omega),Qlap,Nat.min_self,e4]
    ·rw[Qla,Qla,Qlc,Qlaq,Qlai,e3];omega
   ·exact⟨n,l,rfl,hn,he,rfl⟩
  ·obtain⟨hj1,hjn,hR⟩:=hx;obtain⟨i1,i2⟩:=hI j hj hj1 hR;have hWj:W ((j:Int)-1)=((j-1:Nat):Int):=by rw[E4 (by omega) (by omega)];omega
   have hjl:j<l.length:=by omega
   have hjl':j-1<l.length:=by omega
   simp only[V9,S9,Int.toNat_natCast,hWj,ne8 hjl,ne8 hjl',Md8 hjl,Md8 hjl',m9 hj (show n<=4611686018427387904 by omega)]
   rw[btD (i8 hj),bt (f9 hj),bt (f9 (show j-1<n by omega)),bt (f9 (show j<n+1 by omega))]
   simp only[l9];rw[show ((gL tV l j).x==(gL tV l (j-1)).x&&((gL tV l j).y==(gL tV l (j-1)).y&&((gL tV l j).z==(gL tV l (j-1)).z&&true)))=eqV (gL tV l j) (gL tV l (j-1)) from rfl]
   cases he:eqV (gL tV l j) (gL tV l (j-1)) with
   |false=>exact .nx ⟨(),rfl,by omega,by omega,i2 he⟩
   |true =>
    obtain⟨m',cur',k',e2,e3,e4,e5⟩:=inner j hj hj1 (i1 he);rw[e2];simp only[f9 (show m'<n+1 by omega)]
    exact .ex (.inl ⟨rfl,j,rfl,hj,hj1,i1 he⟩)
  ·obtain⟨hj1,hjn,hR⟩:=hx;refine⟨2,?_,.inr ⟨rfl,?_⟩⟩
   ·simp only[V9,S9];rw[bfD (by omega)]
   ·have:j=n:=by omega
    subst this;rw[Qlam (by rw[Qlc];omega)] at hR
    unfold dvF at hR;rw[Qlj] at hR;exact hR
def Af8(l:List V3):Prop:=l.Pairwise LtV
theorem jd2{x y z:V3}(h1:LtV x y)(h2:LtV y z):LtV x z:=by unfold LtV at *;omega
theorem Yc9(x:V3):¬ LtV x x:=by unfold LtV;omega
theorem Qf9(x y:V3):LtV x y\/x=y\/LtV y x:=by
 by_cases h1:LtV x y
 ·exact .inl h1
 ·by_cases h2:LtV y x
  ·exact .inr (.inr h2)
  ·refine .inr (.inl ?_);unfold LtV at h1 h2;exact V3.ext' (by omega) (by omega) (by omega)
theorem Re1(l:List V3):List.Perm (oc5 l) l:=List.mergeSort_perm l _
theorem if5(x y z:V3)(h1:(!ltOf Yb9 y x)=true)(h2:(!ltOf Yb9 z y)=true):(!ltOf Yb9 z x)=true:=by
 rw[fb0] at *
 simp only[Bool.not_eq_true',decide_eq_false_iff_not] at *
 unfold LtV at *
 omega
theorem if6(x y:V3):((!ltOf Yb9 y x)||(!ltOf Yb9 x y))=true:=by
 rw[fb0,fb0];by_cases h:LtV y x
 ·have h2:¬ LtV x y:=λh2=>Yc9 x (jd2 h2 h)
  simp[h2]
 ·simp[h]
theorem ne9(l:List V3):(oc5 l).Pairwise λx y=>(!ltOf Yb9 y x)=true:=List.pairwise_mergeSort if5 if6 l
theorem Ze8(p:V3):∀(a:V3) (l:List V3),p∈a::dvF a l↔p∈a::l
 |a,[]=>by simp[dvF]
 |a,x::l=>by
  have ih:=Ze8 p x l;unfold dvF;split
  ·rename_i h;rw[Yc8] at h;subst h;rw[ih];simp
  ·simp only[Qlw] at ih ⊢;rw[ih]
theorem jg5(p:V3):∀l:List V3,p∈ddV l↔p∈l
 |[]=>Iff.rfl
 |x::l=>Ze8 p x l
theorem Ze9:∀(a:V3) (l:List V3),(a::l).Pairwise (λx y=>(!ltOf Yb9 y x)=true)->Af8 (a::dvF a l)
 |a,[],_=>List.pairwise_singleton _ _
 |a,x::l,h=>by
  obtain⟨h1,h2⟩:=Qlac.1 h;have ih:=Ze9 x l h2;have hle:=h1 x List.mem_cons_self;rw[fb0] at hle;have hle:¬ LtV x a:=by simpa using hle
  unfold dvF;split
  ·rename_i he;rw[Yc8] at he;subst he;exact ih
  ·rename_i hne;have hlt:LtV a x:=by
    rcases Qf9 a x with h|h|h
    ·exact h
    ·exact absurd ((Yc8 _ _).2 h.symm) hne
    ·exact absurd h hle
   refine Qlac.2 ⟨λp hp=>?_,ih⟩
   rcases Qlw.1 hp with e|hp'
   ·subst e;exact hlt
   ·exact jd2 hlt ((Qlac.1 ih).1 p hp')
theorem Af9(l:List V3):Af8 (ddV (oc5 l)):=by
 have h:=ne9 l;cases hs:oc5 l with
 |nil=>exact .nil
 |cons a l'=>rw[hs] at h;exact Ze9 a l' h
noncomputable def dis(l:List V3):List V3:=ddV (oc5 l)
theorem Cc2(l:List V3)(v:V3):v∈dis l↔v∈l:=by unfold dis;rw[jg5,(Re1 l).mem_iff]
theorem if7(l:List V3):(dis l).Nodup:=List.Pairwise.imp (λ{x y} (h:LtV x y) (e:x=y)=>Yc9 y (e ▸ h)) (Af9 l)
theorem oe0(l:List V3):(dis l).length<=l.length:=by
 have:=List.Nodup.length_le_of_subset (if7 l) (λv hv=>(Cc2 l v).1 hv)
 exact this
theorem ce4(l:List V3)(n:Nat)(hn:n<=l.length):slR tV (bL tV l) 0 n=l.take n:=Bd2 tV (by rw[Qlc];omega) λk hk=>by
 rw[Qle,pa5 tV (by omega)]
 congr 1;simp[gL,Qlu,Qlad,hk]
theorem jd3(l:List V3)(n:Nat)(hn:n<=l.length):okS tV (bL tV l) 0 n=true:=nb6 tV (f:=λk=>gL tV l k) λk hk=>by rw[Qle,pa5 tV (by omega)]
theorem ce5(a:V3)(l:List V3)(hl:l.length<=1000000):ra5 (a,l)=⟨1,(a::l).length,bL tV (a::l)⟩:=by
 have ec:o8 (λk=>tV.row (gL tV (a::l) k)) (List.range (l.length+1))=bL tV (a::l):=ub1 tV (a::l)
 unfold ra5 da8;simp only[ec,V2];have z:Nat.beq (a::l).length 0=false:=rfl;have r:Nat.ble ((0+(a::l).length)*24) room=true:=by rw[Qlah];unfold room;simp only[List.length_cons];omega
 rw[z,r,Qle];rfl
theorem Zc0(a:V3)(l:List V3)(hl:l.length<=1000000):∃m r,W4 ⟨(a::l).length,app (bL tV (oc5 (slR tV (bL tV (a::l)) 0 (a::l).length))) (j8 (bL tV (a::l)) (a::l).length)⟩=⟨1,m,bL tV r⟩/\m<=r.length/\r.take m=dis (a::l)/\r.length=l.length+1:=by
 have hs:(oc5 (a::l)).length=(a::l).length:=ae4 _;rw[gb6,Md9,Ka4];obtain⟨m,r,k1,k2,k3,k4⟩:=Fe2 (oc5 (a::l)++(a::l).drop (a::l).length) (a::l).length (by rw[Qla,hs];omega) (by rw[Qla,hs,Qlai];simp only[List.length_cons];omega)
 refine⟨m,r,k1,k2,?_,by rw[k4,Qla,hs,Qlai];simp only[List.length_cons];omega⟩
 rw[k3,Qlq (by rw[hs];omega),List.take_of_length_le (by rw[hs];omega)]
 rfl
theorem Fe3(l:List V3)(hl:l.length<=2000000)(r:List V3):(Bool.and (Nat.ble l.length room) (Bool.and (Nat.ble l.length (len (bL tV (l++r)))) (okS tV (bL tV (l++r)) 0 l.length)))=true:=by
 rw[jd3 _ _ (by rw[Qla];omega),V2,Qlg,Qlg,Qlah,Qlah]
 refine⟨by unfold room;omega,by rw[Qla];omega,rfl⟩
theorem od4(a:V3)(l:List V3)(hl:l.length<=1000000):Rd (one (r1L tV)) (Ha3 (a,l)) (λr=>r=dis (a::l)):=by
 obtain⟨m,r,k1,k2,k3,_⟩:=Zc0 a l hl;have hok:okL tV (l.length+1) (λk=>tV.row (gL tV (a::l) k))=true:=nb6 tV (f:=λk=>gL tV (a::l) k) λ_ _=>rfl
 have hr:=Fe3 (a::l) (by simp only[List.length_cons];omega) []
 rw[Qlj] at hr;unfold Ha3;simp only[Ue3,Ue4,ce5 a l hl,hok,k1,l9,Qlaj,hr];refine⟨_,r.take m,rfl,?_,k3⟩;show Bool.rec (motive:=λ_=>Option (List V3)) none (some (slR tV (bL tV r) 0 m)) (Bool.and true (okS tV (bL tV r) 0 m))=_
 rw[ce4 r m k2,jd3 r m k2];rfl
theorem Re2(a:V3)(l:List V3)(hl:l.length<=1000000):Bb1 (a,l)=dis (a::l):=(od4 a l hl).p
theorem Re3(a:V3)(l:List V3)(hl:l.length<=1000000):Bb2 (a,l)=true:=(od4 a l hl).g
end Go.Ev.Ce
namespace Go.Ev.Ce
open Go Go.Ev Go.Ev.L Go.Proofs
theorem Fe4(p:Pln)(v:V3):jb9 p v=some (i (fa8 p v),[]):=by
 unfold jb9 fa8;simp only[me0,me1,(Zb7 v).1,(Zb7 v).2,We2,We3,l9];cases hp:okp p with
 |false=>rfl
 |true =>
  cases hv:inV v with
  |false=>rfl
  |true =>
   have hb:=lb6 hp;have hd:=ne4 hb hv;have e:j7 p.n v=dot p.n v:=by
    unfold j7;simp only[Va9,pb8];exact za8 (hd.mono (by omega))
   rw[e];simp only[Bool.not_true,Wa6,Qlaf,if_true,fb5];by_cases h1:dot p.n v<p.b
   ·rw[if_pos h1,if_pos (by omega)]
   ·rw[if_neg h1];by_cases h2:dot p.n v>p.b
    ·rw[if_pos h2,if_neg (by omega),if_pos (by omega)]
    ·rw[if_neg h2,if_neg (by omega),if_neg (by omega)]
theorem Zc1(p:Pln)(v:V3):wa0 p v=fa8 p v:=by unfold wa0;rw[Fe4];rfl
theorem Zc2(p:Pln)(v:V3):wa1 p v=true:=by unfold wa1;rw[Fe4];rfl
theorem Rf0{v:V3}(h1:Sm 1000000000000000000 v.x)(h2:Sm 1000000000000000000 v.y)(h3:Sm 1000000000000000000 v.z):ka9 [v.x,v.y,v.z]=g3 v/\la0 [v.x,v.y,v.z]=true:=by
 have hd:=Kd3 [v.x,v.y,v.z] (by simp) (by
  intro x hx;simp only[Qlw,List.not_mem_nil,or_false] at hx
  rcases hx with rfl|rfl|rfl<;>assumption)
 have hg:([v.x,v.y,v.z].foldl (λg x=>Nat.gcd g x.natAbs) 0:Nat)=Nat.gcd (Nat.gcd v.x.natAbs v.y.natAbs) v.z.natAbs:=by
  simp only[List.foldl_cons,List.foldl_nil,Nat.gcd_zero_left]
 exact⟨by unfold ka9;rw[hd,hg];rfl,by unfold la0;rw[hd];rfl⟩
theorem Bf0 {v : V3} (h1 : Sm 1000000000000000000 v.x) (h2 : Sm 1000000000000000000 v.y) (h3 : Sm 1000000000000000000 v.z) :
  jb8 v=if g3 v=0 then some (.tup [.agg (tV.row ⟨0,0,0⟩),i 0],[]) else some (.tup [.agg (tV.row ⟨W (Int.tdiv v.x (g3 v)),W (Int.tdiv v.y (g3 v)),W (Int.tdiv v.z (g3 v))⟩),i (g3 v)],[]):=by
 obtain⟨e1,e2⟩:=Rf0 h1 h2 h3;unfold jb8;simp only[e1,e2,l9];by_cases h:g3 v=0
 ·rw[if_pos h,bt (by simpa using h)];rfl
 ·rw[if_neg h,bf (by simpa using h),bf (by simpa using h),bf (by simpa using h),bf (by simpa using h)];rfl
theorem od5(a c d:V3):Ga9 a c d=some (.tup [.agg (tP.row (A6 a c d).1),b (A6 a c d).2],[]):=by
 unfold Ga9 A6;simp only[(Zb7 _).1,(Zb7 _).2];cases ha:inV a with
 |false=>rfl
 |true =>
  cases hc:inV c with
  |false=>rfl
  |true =>
   cases hd:inV d with
   |false=>rfl
   |true =>
    obtain⟨e,k1,k2,k3⟩:=Zb6 ha hc hd;have e':D8 (Pa5 c a) (Pa5 d a)=d8 (sub c a) (sub d a):=e;rw[e'];generalize d8 (sub c a) (sub d a)=n at *
    have m1:=k1.mono (m:=1000000000000000000) (by omega)
    have m2:=k2.mono (m:=1000000000000000000) (by omega)
    have m3:=k3.mono (m:=1000000000000000000) (by omega)
    have hpr:=Bf0 m1 m2 m3;have gp:Fb0 n=true:=by unfold Fb0;rw[hpr];split<;>rfl
    by_cases h0:g3 n=0
    ·have pp:Sa7 n=(⟨0,0,0⟩,0):=by unfold Sa7;rw[hpr,if_pos h0];rfl
     have hz:j7 ⟨0,0,0⟩ a=0:=by unfold j7;simp only[Int.zero_mul];rfl
     simp only[gp,pp,hz,Qlaf,if_true,h0];rfl
    ·have hp:=Bc7 n;have q1:=E6 (g:=g3 n) k1 (by omega)
     have q2:=E6 (g:=g3 n) k2 (by omega)
     have q3:=E6 (g:=g3 n) k3 (by omega)
     rw[za8 (q1.mono (by omega)),za8 (q2.mono (by omega)),za8 (q3.mono (by omega))] at hpr
     have pp:Sa7 n=(⟨Int.tdiv n.x (g3 n),Int.tdiv n.y (g3 n),Int.tdiv n.z (g3 n)⟩,g3 n):=by unfold Sa7;rw[hpr,if_neg h0];rfl
     have hdot:j7 ⟨Int.tdiv n.x (g3 n),Int.tdiv n.y (g3 n),Int.tdiv n.z (g3 n)⟩ a=dot ⟨Int.tdiv n.x (g3 n),Int.tdiv n.y (g3 n),Int.tdiv n.z (g3 n)⟩ a:=by
      unfold j7;simp only[Va9,pb8];obtain⟨⟨a1,a2⟩,⟨a3,a4⟩,a5,a6⟩:=(cb0 a).1 ha;have r1:=mb q1.1 q1.2 a1 a2;have r2:=mb q2.1 q2.2 a3 a4;have r3:=mb q3.1 q3.2 a5 a6;rw[E4 (by omega) (by omega)]
      rfl
     simp only[gp,pp,hdot,Qlaf,if_true,h0,if_false,show g3 n>0 from by omega,decide_true]
     rfl
theorem lc8(a b c:V3):O6 a b c=A6 a b c:=by unfold O6;rw[od5];rfl
theorem Oc1(a b c:V3):ua0 a b c=true:=by unfold ua0;rw[od5];rfl
theorem Bf1(v:V3)(p:Pln):sb4 ⟨v.x,v.y,v.z,p.n.x,p.n.y,p.n.z,p.b⟩=⟨1,fa8 p v != 0⟩:=by
 unfold sb4 Ja3;simp only[Zc1,Zc2,l9]
theorem Rf1(l:List V3)(p:Pln)(hl:l.length<=1000000000):ia5 ⟨l,p.n.x,p.n.y,p.n.z,p.b⟩=⟨1,if l.any (λv=>fa8 p v != 0) then ((l.findIdx (λv=>fa8 p v != 0):Nat):Int) else -1⟩:=by
 have h:=wa3 (step:=N7 ⟨l,(l.length:Int),p.n.x,p.n.y,p.n.z,p.b⟩) (mk:=λj=>(⟨(j:Int)⟩:r9)) (c:=λv=>fa8 p v != 0) (u:=1) (fin:=2) tV l hl
  (λj hj=>by
   simp only[N7,M0,Int.toNat_natCast,Bf1,m9 hj (by omega)]
   rw[bt (Nb6 hj),bt (f9 hj)]
   rfl)
  (by simp only[N7,M0];rw[bf (sb5 (Qlb _))]) 0 (Qlf _)
 rw[Qlk] at h;unfold ia5 M8;simp only[i9,i6];rw[show (⟨0⟩:r9)=⟨((0:Nat):Int)⟩ from rfl,h]
 split
 ·simp only[Qle];rfl
 ·rfl
theorem af0(l:List V3)(p:Pln)(hl:l.length<=1000000000):u9 ⟨l,p.n.x,p.n.y,p.n.z,p.b⟩=⟨1,l.any λv=>fa8 p v != 0⟩:=by
 unfold u9 F4;simp only[i9,i6,Rf1 l p hl];split
 ·rename_i h;rw[h,show decide (((l.findIdx (λv=>fa8 p v != 0):Nat):Int)>=0)=true from decide_eq_true (by omega)];rfl
 ·rename_i h;rw[Qly] at h;rw[h];rfl
theorem Rf2(v:V3)(p:Pln):bb3 ⟨v.x,v.y,v.z,p.n.x,p.n.y,p.n.z,p.b⟩=⟨1,decide (fa8 p v>0)⟩:=by
 unfold bb3 ua1;simp only[Zc1,Zc2,l9]
theorem Rf3(l:List V3)(p:Pln)(hl:l.length<=1000000000):ia8 ⟨l,p.n.x,p.n.y,p.n.z,p.b⟩=⟨1,if l.any (λv=>decide (fa8 p v>0)) then ((l.findIdx (λv=>decide (fa8 p v>0)):Nat):Int) else -1⟩:=by
 have h:=wa3 (step:=N8 ⟨l,(l.length:Int),p.n.x,p.n.y,p.n.z,p.b⟩) (mk:=λj=>(⟨(j:Int)⟩:s6)) (c:=λv=>decide (fa8 p v>0)) (u:=1) (fin:=2) tV l hl
  (λj hj=>by
   simp only[N8,M1,Int.toNat_natCast,Rf2,m9 hj (by omega)]
   rw[bt (Nb6 hj),bt (f9 hj)]
   rfl)
  (by simp only[N8,M1];rw[bf (sb5 (Qlb _))]) 0 (Qlf _)
 rw[Qlk] at h;unfold ia8 M9;simp only[i9,i6];rw[show (⟨0⟩:s6)=⟨((0:Nat):Int)⟩ from rfl,h]
 split
 ·simp only[Qle];rfl
 ·rfl
theorem Rf4(l:List V3)(p:Pln)(hl:l.length<=1000000000):Z2 ⟨l,p.n.x,p.n.y,p.n.z,p.b⟩=⟨1,l.any λv=>decide (fa8 p v>0)⟩:=by
 unfold Z2 F5;simp only[i9,i6,Rf3 l p hl];split
 ·rename_i h;rw[h,show decide (((l.findIdx (λv=>decide (fa8 p v>0)):Nat):Int)>=0)=true from decide_eq_true (by omega)];rfl
 ·rename_i h;rw[Qly] at h;rw[h];rfl
def bey(l:List V3)(p:Pln):Bool:=l.any λv=>decide (fa8 p v>0)
theorem ce6(l:List V3)(p:Pln)(hl:l.length<=1000000000):Ya7 l p=some (b (bey l p),[]):=by
 unfold Ya7;simp only[i9,i6,Rf4 l p hl];rfl
theorem Bf2(l:List V3)(p:Pln)(hl:l.length<=1000000000):pa4 l p=bey l p:=by unfold pa4;rw[ce6 l p hl];rfl
theorem Bf3(l:List V3)(p:Pln)(hl:l.length<=1000000000):O8 l p=true:=by unfold O8;rw[ce6 l p hl];rfl
theorem ce7{α:Type}(t:Ty α)(l:List α){j k:Nat}(h:k<j):gL t (l.take j) k=gL t l k:=by
 simp[gL,Qlu,Qlad,h]
theorem Bf4 (l : List V3) (i j : Nat) (hi : i < l.length) (hj : j < i) (hl : l.length ≤ 1000000) :
  lp (Y9 ⟨(i:Int),(j:Int),(l.length:Int),(i:Int),(i:Int),(j:Int),(j:Int),l,l⟩) ⟨0⟩ =
   if (l.take j).any (λv=>(A6 v (gL tV l j) (gL tV l i)).2) then (1,⟨((l.take j).findIdx (λv=>(A6 v (gL tV l j) (gL tV l i)).2):Nat)⟩) else (2,⟨(j:Int)⟩):=by
 have hlen:(l.take j).length=j:=by rw[Qlc];omega
 have h:=wa3 (step:=Y9 ⟨(i:Int),(j:Int),(l.length:Int),(i:Int),(i:Int),(j:Int),(j:Int),l,l⟩) (mk:=λk=>(⟨(k:Int)⟩:O7)) (c:=λv=>(A6 v (gL tV l j) (gL tV l i)).2) (u:=1) (fin:=2) tV (l.take j) (by omega)
  (λk hk=>by
   rw[hlen] at hk;simp only[Y9,Ha0,Int.toNat_natCast,lc8,Oc1,ce7 tV l hk,i9,i6,af0 l _ (show l.length<=1000000000 by omega),m9 hk (by omega)]
   rw[btD (i8 hk),bt (f9 (by omega)),bt (f9 (by omega)),bt (f9 hi),l9]
   cases (A6 (gL tV l k) (gL tV l j) (gL tV l i)).2<;>rfl)
  (by rw[hlen];simp only[Y9,Ha0];rw[bfD (n5 (Qlb _))]) 0 (Qlf _)
 rw[Qlk,hlen] at h;rw[show (⟨0⟩:O7)=⟨((0:Nat):Int)⟩ from rfl,h]
 split
 ·simp only[Qle]
 ·rfl
def ixs(n:Nat):List Int:=(List.range n).map λk:Nat=>(k:Int)
theorem Gb4(n:Nat):(ixs n).length=n:=by simp[ixs]
theorem af1{n k:Nat}(h:k<n):gL tI (ixs n) k=(k:Int):=by
 simp[gL,ixs,Qlu,List.getElem?_map,Qlv h]
noncomputable def sp2(l:List V3)(i:Nat)(m:Int):Bool:=(l.take m.toNat).any λv=>(A6 v (gL tV l m.toNat) (gL tV l i)).2
theorem Bf5 (l : List V3) (i : Nat) (hi : i < l.length) (hl : l.length ≤ 1000000) :
  lp (ha5 ⟨(i:Int),(l.length:Int),(i:Int),(i:Int)⟩) ⟨0,l,l⟩=if (ixs i).any (sp2 l i) then (1,⟨((ixs i).findIdx (sp2 l i):Nat),l,l⟩) else (2,⟨(i:Int),l,l⟩):=by
 have h:=wa3 (step:=ha5 ⟨(i:Int),(l.length:Int),(i:Int),(i:Int)⟩) (mk:=λj=>(⟨(j:Int),l,l⟩:S6)) (c:=sp2 l i) (u:=1) (fin:=2) tI (ixs i) (by rw[Gb4];omega)
  (λj hj=>by
   rw[Gb4] at hj;simp only[ha5,Ha1,Int.toNat_natCast,Nat.sub_zero,i9,i6,Bf4 l i j hi hj hl,m9 hj (by omega),af1 hj]
   rw[btD (i8 hj),bt (f9 (by omega))]
   unfold sp2;simp only[Int.toNat_natCast];cases ((l.take j).any λv=>(A6 v (gL tV l j) (gL tV l i)).2)<;>rfl)
  (by rw[Gb4];simp only[ha5,Ha1];rw[bfD (n5 (Qlb _))]) 0 (Qlf _)
 rw[Qlk,Gb4] at h;rw[show (⟨0,l,l⟩:S6)=⟨((0:Nat):Int),l,l⟩ from rfl,h]
 split
 ·simp only[Qle]
 ·rfl
noncomputable def sp1(l:List V3)(m:Int):Bool:=(ixs m.toNat).any (sp2 l m.toNat)
theorem jg6 (l : List V3) (hl : l.length ≤ 1000000) :
  lp (Ca0 ⟨(l.length:Int)⟩) ⟨0,l,l⟩=if (ixs l.length).any (sp1 l) then (1,⟨((ixs l.length).findIdx (sp1 l):Nat),l,l⟩) else (2,⟨(l.length:Int),l,l⟩):=by
 have h:=wa3 (step:=Ca0 ⟨(l.length:Int)⟩) (mk:=λj=>(⟨(j:Int),l,l⟩:fa7)) (c:=sp1 l) (u:=1) (fin:=2) tI (ixs l.length) (by rw[Gb4];omega)
  (λi hi=>by
   rw[Gb4] at hi;simp only[Ca0,Ha2,Int.toNat_natCast,Nat.sub_zero,i9,i6,Bf5 l i hi hl,m9 hi (by omega),af1 hi]
   rw[btD (i8 hi),bt (f9 (by omega))]
   unfold sp1;simp only[Int.toNat_natCast];cases (ixs i).any (sp2 l i)<;>rfl)
  (by rw[Gb4];simp only[Ca0,Ha2];rw[bfD (n5 (Qlb _))]) 0 (Qlf _)
 rw[Qlk,Gb4] at h;rw[show (⟨0,l,l⟩:fa7)=⟨((0:Nat):Int),l,l⟩ from rfl,h]
 split
 ·simp only[Qle]
 ·rfl
theorem oe1{α:Type}{l:List α}{c:α->Bool}(h:l.any c=true):l.findIdx c<l.length:=by
 obtain⟨x,h1,h2⟩:=Qld.1 h;exact Qlz ⟨x,h1,h2⟩
theorem Cc3{n:Nat}{c:Int->Bool}(h:(ixs n).any c=true):(ixs n).findIdx c<n/\c ((ixs n).findIdx c:Nat)=true:=by
 have hlt:=oe1 h;have h1:=Qls (xs:=ixs n) (p:=c) (w:=hlt);rw[Gb4] at hlt;refine⟨hlt,?_⟩;simpa [ixs] using h1
noncomputable def iF(l:List V3):Nat:=(ixs l.length).findIdx (sp1 l)
noncomputable def jF(l:List V3):Nat:=(ixs (iF l)).findIdx (sp2 l (iF l))
noncomputable def kF(l:List V3):Nat:=(l.take (jF l)).findIdx (λv=>(A6 v (gL tV l (jF l)) (gL tV l (iF l))).2)
noncomputable def plF(l:List V3):Pln:=(A6 (gL tV l (kF l)) (gL tV l (jF l)) (gL tV l (iF l))).1
noncomputable def Jc1(l:List V3):Bool:=if (ixs l.length).any (sp1 l) then !(l.any λv=>fa8 (plF l) v != 0) else true
theorem Fe5(l:List V3)(hl:l.length<=1000000):xb2 l=some (b (Jc1 l),[]):=by
 unfold xb2 Jc1;simp only[i9,i6];rw[jg6 l hl];by_cases h:(ixs l.length).any (sp1 l)=true
 ·obtain⟨hi,h1⟩:=Cc3 h;have h1:(ixs (iF l)).any (sp2 l (iF l))=true:=h1;obtain⟨hj,h2⟩:=Cc3 h1;have h2:(l.take (jF l)).any (λv=>(A6 v (gL tV l (jF l)) (gL tV l (iF l))).2)=true:=h2
  rw[if_pos h,if_pos h];simp only[Int.toNat_natCast,Nat.sub_zero];rw[show (ixs l.length).findIdx (sp1 l)=iF l from rfl,Bf5 l (iF l) hi hl,if_pos h1]
  simp only[Int.toNat_natCast,Nat.sub_zero];rw[show (ixs (iF l)).findIdx (sp2 l (iF l))=jF l from rfl,Bf4 l (iF l) (jF l) hi hj hl,if_pos h2]
  simp only[Int.toNat_natCast,lc8];rw[show (l.take (jF l)).findIdx (λv=>(A6 v (gL tV l (jF l)) (gL tV l (iF l))).2)=kF l from rfl,show (A6 (gL tV l (kF l)) (gL tV l (jF l)) (gL tV l (iF l))).1=plF l from rfl,af0 l _ (by omega)]
  rfl
 ·rw[if_neg h,if_neg h];rfl
theorem Rf5(l:List V3)(hl:l.length<=1000000):Tb6 l=Jc1 l:=by unfold Tb6;rw[Fe5 l hl];rfl
theorem Rf6(l:List V3)(hl:l.length<=1000000):Tb7 l=true:=by unfold Tb7;rw[Fe5 l hl];rfl
theorem ce8(v:V3):Qa1 v=some (b (!inV v),[]):=by
 unfold Qa1;simp only[(Zb7 v).1,(Zb7 v).2,l9]
theorem Bf6(v:V3):kb0 v=!inV v:=by unfold kb0;rw[ce8];rfl
theorem Bf7(v:V3):kb1 v=true:=by unfold kb1;rw[ce8];rfl
theorem Rf7(l:List V3)(hl:l.length<=1000000000):ja1 ⟨l⟩=⟨1,if l.any (λv=>!inV v) then ((l.findIdx (λv=>!inV v):Nat):Int) else -1⟩:=by
 have h:=wa3 (step:=N9 ⟨l,(l.length:Int)⟩) (mk:=λj=>(⟨(j:Int)⟩:s7)) (c:=λv=>!inV v) (u:=1) (fin:=2) tV l hl
  (λj hj=>by
   simp only[N9,M2,Int.toNat_natCast,Bf6,Bf7,m9 hj (by omega)]
   rw[bt (Nb6 hj),bt (f9 hj),l9])
  (by simp only[N9,M2];rw[bf (sb5 (Qlb _))]) 0 (Qlf _)
 rw[Qlk] at h;unfold ja1 N0;simp only[i9,i6];rw[show (⟨0⟩:s7)=⟨((0:Nat):Int)⟩ from rfl,h]
 split
 ·simp only[Qle];rfl
 ·rfl
theorem Rf8(l:List V3)(hl:l.length<=1000000000):Z5 ⟨l⟩=⟨1,l.any λv=>!inV v⟩:=by
 unfold Z5 F6;simp only[i9,i6,Rf7 l hl];split
 ·rename_i h;rw[h,show decide (((l.findIdx (λv=>!inV v):Nat):Int)>=0)=true from decide_eq_true (by omega)];rfl
 ·rename_i h;rw[Qly] at h;rw[h];rfl
noncomputable def xb8(l:List V3):Int:=if (l.length:Int)>48 then 2 else if l.any (λv=>!inV v) then 3 else if Jc1 l then 11 else 0
theorem ce9(l:List V3)(hl:l.length<=1000000):kb2 l=some (i (xb8 l),[]):=by
 unfold kb2 xb8;simp only[i9,i6,J1,Rf8 l (by omega),Rf5 l hl,Rf6 l hl]
 by_cases h:(l.length:Int)>48
 ·rw[btD h,if_pos h]
 ·rw[bfD h,if_neg h];cases l.any λv=>!inV v with
  |true=>rfl
  |false=>cases Jc1 l<;>rfl
theorem Nd0(l:List V3)(hl:l.length<=1000000):kb3 l=xb8 l:=by unfold kb3;rw[ce9 l hl];rfl
theorem Nd1(l:List V3)(hl:l.length<=1000000):kb4 l=true:=by unfold kb4;rw[ce9 l hl];rfl
theorem Bf8{p:Pln}(h:Bd p):Sa6 p=ba4 p:=by
 unfold Sa6 Pa5 ba4
 simp only
 have:=h.x1;have:=h.x2;have:=h.y1;have:=h.y2;have:=h.z1;have:=h.z2;have:=h.b1;have:=h.b2
 rw[E4 (by omega) (by omega),E4 (by omega) (by omega),E4 (by omega) (by omega),E4 (by omega) (by omega)]
 simp only[Int.zero_sub]
noncomputable def oe2(p:Pln):List b7:=[i p.n.x,i p.n.y,i p.n.z,i p.b,b true]
noncomputable def Ub9(l:List Pln):List (List b7):=l.map oe2
theorem de0(x q:Pln):Pb8 flK [i x.n.x,i x.n.y,i x.n.z,i x.b] (oe2 q)=eqP q x:=by
 show Bool.and (decide (x.n.x=q.n.x)) (Bool.and (decide (x.n.y=q.n.y)) (Bool.and (decide (x.n.z=q.n.z)) (Bool.and (decide (x.b=q.b)) true)))=_;unfold eqP;have h:∀a c:Int,decide (a=c)=(c==a):=λa c=>by rw[Bool.eq_iff_iff,decide_eq_true_eq,beq_iff_eq];exact eq_comm
 rw[h,h,h,h]
theorem Fe6(x:Pln):∀l,La5 4 [(0,.int .i64),(1,.int .i64),(2,.int .i64),(3,.int .i64)] [i x.n.x,i x.n.y,i x.n.z,i x.b] (Ub9 l)=Yc4 l x
 |[]=>rfl
 |q::l=>by
  have ih:=Fe6 x l;unfold La5 at ih ⊢;show Option.rec (motive:=λ_=>Bool) false (λr=>toB (hdA (j8 r 4))) (Bool.rec (motive:=λ_=>Option (List b7)) (Fc0 flK [i x.n.x,i x.n.y,i x.n.z,i x.b] (Ub9 l)) (some (oe2 q)) (Pb8 flK [i x.n.x,i x.n.y,i x.n.z,i x.b] (oe2 q)))=Yc4 (q::l) x
  rw[de0];unfold Yc4 at ih ⊢;rw[List.any_cons];cases eqP q x with
  |true=>rfl
  |false=>exact ih
theorem Re4(x:Pln):∀l,Yc4 l x=false->aa3 [(0,.int .i64),(1,.int .i64),(2,.int .i64),(3,.int .i64)] [i x.n.x,i x.n.y,i x.n.z,i x.b] [i x.n.x,i x.n.y,i x.n.z,i x.b,b true] (Ub9 l)=Ub9 (l++[x])
 |[],_=>rfl
 |q::l,h=>by
  unfold Yc4 at h;rw[List.any_cons,Bool.or_eq_false_iff] at h;show Bool.rec (motive:=λ_=>List (List b7)) (oe2 q::aa3 flK [i x.n.x,i x.n.y,i x.n.z,i x.b] (oe2 x) (Ub9 l)) (oe2 x::Ub9 l) (Pb8 flK [i x.n.x,i x.n.y,i x.n.z,i x.b] (oe2 q))=_
  rw[de0,h.1,show aa3 flK [i x.n.x,i x.n.y,i x.n.z,i x.b] (oe2 x) (Ub9 l)=_ from Re4 x l h.2]
  rfl
noncomputable def Oc2(s:List Pln)(p:Pln):List Pln:=if Yc4 s p then s else s++[p]
theorem Bf9(s:List Pln)(p q:Pln):q∈Oc2 s p↔q∈s\/q=p:=by
 unfold Oc2;split
 ·rename_i h;rw[Ee4] at h;exact⟨.inl,λh'=>h'.elim id λe=>e ▸ h⟩
 ·rw[Qlal,Qlae]
theorem Nd2{s:List Pln}{p:Pln}(h:s.Nodup):(Oc2 s p).Nodup:=by
 unfold Oc2;split
 ·exact h
 ·rename_i hn;rw[Ee4] at hn;rw[List.nodup_append];exact⟨h,by simp,λa ha b hb=>by rw[Qlae.1 hb];intro e;exact hn (e ▸ ha)⟩
theorem Fe7(s:List Pln)(p:Pln):(Oc2 s p).length<=s.length+1:=by
 unfold Oc2;split
 ·omega
 ·simp
def fil(l:List V3)(s:List Pln):List Pln:=s.filter λp=>!bey l p
theorem xd4(l:List V3)(s:List Pln)(p:Pln):fil l (s++[p])=if bey l p then fil l s else fil l s++[p]:=by
 unfold fil;rw[Qlo,Qlt,List.filter_nil];cases bey l p<;>simp
theorem oe3(l:List V3)(s:List Pln):(fil l s).length<=s.length:=Qlaa _ _
noncomputable def Jc2(l:List V3)(a c:Nat)(s:List Pln)(k:Nat):List Pln :=
 if (A6 (gL tV l k) (gL tV l c) (gL tV l a)).2 then Oc2 (Oc2 s (A6 (gL tV l k) (gL tV l c) (gL tV l a)).1) (ba4 (A6 (gL tV l k) (gL tV l c) (gL tV l a)).1) else s
noncomputable def G2(l:List V3)(a:Nat)(s:List Pln)(c:Nat):List Pln:=(List.range c).foldl (Jc2 l a c) s
noncomputable def G1(l:List V3)(s:List Pln)(a:Nat):List Pln:=(List.range a).foldl (G2 l a) s
noncomputable def G0(l:List V3):List Pln:=(List.range l.length).foldl (G1 l) []
theorem de1(l:List V3)(a c:Nat)(s:List Pln)(k:Nat):(Jc2 l a c s k).length<=s.length+2:=by
 unfold Jc2;split
 ·have h1:=Fe7 (Oc2 s (A6 (gL tV l k) (gL tV l c) (gL tV l a)).1) (ba4 (A6 (gL tV l k) (gL tV l c) (gL tV l a)).1);have h2:=Fe7 s (A6 (gL tV l k) (gL tV l c) (gL tV l a)).1;omega
 ·omega
theorem jg7(l:List V3)(a:Nat)(s:List Pln)(c:Nat):(G2 l a s c).length<=s.length+2*c:=fc3 (de1 l a c) s c
theorem Re5(l:List V3)(a:Nat)(s:List Pln):∀j,j<=a->a<=48->((List.range j).foldl (G2 l a) s).length<=s.length+96*j
 |0,_,_=>Qll _
 |j+1,h,ha=>by
  rw[o9];have h1:=Re5 l a s j (by omega) ha
  have h2:=jg7 l a ((List.range j).foldl (G2 l a) s) j;omega
theorem oe4(l:List V3)(hl:l.length<=48):∀j,j<=l.length->((List.range j).foldl (G1 l) []).length<=5000*j
 |0,_=>Qll _
 |j+1,h=>by
  rw[o9];have h1:=oe4 l hl j (by omega)
  have h2:(G1 l ((List.range j).foldl (G1 l) []) j).length<=_:=Re5 l j ((List.range j).foldl (G1 l) []) j (Qll _) (by omega)
  omega
@[reducible] noncomputable def mkf(l:List V3)(k:Nat)(s:List Pln):F7:=⟨phP (fil l s),(k:Int),Ub9 s,(fil l s).length,bL tP (fil l s)⟩
theorem fc6{n:Nat}{l:List Pln}(hn:n=l.length)(h:l.length<=1000000000):(Nat.beq n (len (bL tP l))&&Nat.ble ((n+1)*32) room)=true:=by
 subst hn;rw[V2,Qlaj,Bool.true_and];exact ja4 (by omega)
theorem af2(o:List Pln)(x:Pln):phP (o++[x])=1:=by cases o<;>rfl
theorem Cf0 (l : List V3) (hl : l.length ≤ 48) (a c k : Nat) (ha : a < l.length) (hc : c < a) (hk : k < c) (x1 x2 x3 x4 : Int) (s : List Pln) (ho : s.length ≤ 900000) :
  aa7 ⟨(a:Int),(c:Int),x1,x2,x3,x4,(c:Int),l,l⟩ (mkf l k s)=.next (mkf l (k+1) (Jc2 l a c s k)):=by
 have hfl:Sa6 (A6 (gL tV l k) (gL tV l c) (gL tV l a)).1=ba4 (A6 (gL tV l k) (gL tV l c) (gL tV l a)).1:=Bf8 (Ze3 _ _ _);have hb:∀p,pa4 l p=bey l p:=λp=>Bf2 l p (by omega)
 have hg:∀p,O8 l p=true:=λp=>Bf3 l p (by omega)
 have hn:=m9 hk (show c<=4611686018427387904 by omega)
 have b1:inB (a:Int) l.length=true:=f9 ha;have b2:inB (c:Int) l.length=true:=f9 (by omega)
 have b3:inB (k:Int) l.length=true:=f9 (by omega)
 have hfl2:=oe3 l s;unfold Jc2;unfold mkf;generalize hT:A6 (gL tV l k) (gL tV l c) (gL tV l a)=T at *
 cases hO:fil l s with
 |nil =>
  show da9 Stp.next Stp.exit Stp.fail _ _=_;simp only[da9,lc8,Oc1,Int.toNat_natCast,i9,J1,hT,hfl,hb,hg,hn,b1,b2,b3,Fe6];rw[btD (i8 hk)];cases h2:T.2 with
  |false=>simp only[Qlh,if_false,hO];rfl
  |true =>
   simp only[if_true,l9];cases h3:Yc4 s T.1 with
   |true =>
    cases h4:Yc4 s (ba4 T.1) with
    |true=>simp only[Oc2,h3,h4,if_true,hO];rfl
    |false =>
     rw[Re4 _ _ h4];cases h5:bey l (ba4 T.1)<;>(simp only[Oc2,h3,h4,h5,if_true,if_false,Qlh,xd4,hO];rfl)
   |false =>
    simp only[Re4 _ _ h3,Fe6];cases h5:bey l T.1<;>cases h4:Yc4 (s++[T.1]) (ba4 T.1)<;>(try simp only[Re4 _ _ h4])<;>cases h6:bey l (ba4 T.1)<;>(simp only[Oc2,h3,h4,h5,h6,if_true,if_false,Qlh,xd4,hO];rfl)
 |cons q o =>
  have rr:(Nat.beq (q::o).length (len (bL tP (q::o)))&&Nat.ble (((q::o).length+1)*32) room)=true:=fc6 rfl (by rw[<- hO];omega)
  have ap:∀(O:List Pln) (p:Pln),app (bL tP O) [[i p.n.x,i p.n.y,i p.n.z,i p.b]]=bL tP (O++[p]):=λO p=>Ka4 tP O [p]
  have rr2:∀p:Pln,(Nat.beq ((q::o).length+1) (len (bL tP (q::o++[p])))&&Nat.ble (((q::o).length+1+1)*32) room)=true:=λp=>fc6 (by simp) (by rw[<- hO,Qla,List.length_singleton];omega)
  show ea0 Stp.next Stp.exit Stp.fail _ _=_;simp only[ea0,lc8,Oc1,Int.toNat_natCast,i9,J1,hT,hfl,hb,hg,hn,b1,b2,b3,Fe6,rr,ap,rr2];rw[btD (i8 hk)];cases h2:T.2 with
  |false=>simp only[Qlh,if_false,hO];rfl
  |true =>
   simp only[if_true,l9];cases h3:Yc4 s T.1 with
   |true =>
    cases h4:Yc4 s (ba4 T.1) with
    |true=>simp only[Oc2,h3,h4,if_true,hO];rfl
    |false =>
     rw[Re4 _ _ h4];cases h5:bey l (ba4 T.1)<;>(simp only[Oc2,h3,h4,h5,if_true,if_false,Qlh,xd4,hO,af2,Qla,List.length_singleton];rfl)
   |false =>
    simp only[Re4 _ _ h3,Fe6];cases h5:bey l T.1<;>cases h4:Yc4 (s++[T.1]) (ba4 T.1)<;>(try simp only[Re4 _ _ h4])<;>cases h6:bey l (ba4 T.1)<;>(simp only[Oc2,h3,h4,h5,h6,if_true,if_false,Qlh,xd4,hO,af2,Qla,List.length_singleton];rfl)
theorem jg8 (l : List V3) (hl : l.length ≤ 48) (a c : Nat) (ha : a < l.length) (hc : c < a) (x1 x2 x3 x4 : Int) (s : List Pln) (ho : s.length ≤ 800000) :
  ∃j,lp (aa7 ⟨(a:Int),(c:Int),x1,x2,x3,x4,(c:Int),l,l⟩) (mkf l 0 s)=(phP (fil l (G2 l a s c))+1,mkf l j (G2 l a s c)):=by
 have key:=P5 (step:=aa7 ⟨(a:Int),(c:Int),x1,x2,x3,x4,(c:Int),l,l⟩) (mk:=mkf l) c (λj o=>j<=c/\o=(List.range j).foldl (Jc2 l a c) s) (λt r=>t=phP (fil l (G2 l a s c))+1/\∃j:Nat,r=mkf l j (G2 l a s c)) (by omega)
  (λj o hj hi=>by
   obtain⟨_,hi⟩:=hi;have hlen:o.length<=900000:=by
    rw[hi]
    have:=fc3 (de1 l a c) s j
    omega
   rw[Cf0 l hl a c j ha hc hj x1 x2 x3 x4 o hlen];exact .nx ⟨_,rfl,by omega,by rw[o9,<- hi]⟩)
  (λj o hj hi=>by
   obtain⟨h1,hi⟩:=hi;have e:j=c:=by omega
   subst e;have hF:o=G2 l a s j:=hi;rw[<- hF];refine⟨_,?_,rfl,j,rfl⟩;unfold mkf;cases hO:fil l o with
   |nil =>
    show da9 Stp.next Stp.exit Stp.fail _ _=_;simp only[da9];rw[bfD (n5 (Qlb _))];rfl
   |cons q o =>
    show ea0 Stp.next Stp.exit Stp.fail _ _=_;simp only[ea0];rw[bfD (n5 (Qlb _))]
    rfl) 0 s ⟨Qlf _,rfl⟩
 obtain⟨t,r,h1,rfl,j,rfl⟩:=key;exact⟨j,h1⟩
@[reducible] noncomputable def Nd3(l:List V3)(k:Nat)(s:List Pln):D6:=⟨phP (fil l s),(k:Int),l,l,Ub9 s,(fil l s).length,bL tP (fil l s)⟩
theorem jg9 (l : List V3) (hl : l.length ≤ 48) (a : Nat) (ha : a < l.length) (x1 x2 : Int) (s : List Pln) (ho : s.length ≤ 700000) :
  ∃j,lp (la9 ⟨(a:Int),x1,x2,(a:Int)⟩) (Nd3 l 0 s)=(phP (fil l (G1 l s a))+1,Nd3 l j (G1 l s a)):=by
 have key:=P5 (step:=la9 ⟨(a:Int),x1,x2,(a:Int)⟩) (mk:=Nd3 l) a (λj o=>j<=a/\o=(List.range j).foldl (G2 l a) s) (λt r=>t=phP (fil l (G1 l s a))+1/\∃j:Nat,r=Nd3 l j (G1 l s a)) (by omega)
  (λj o hj hi=>by
   obtain⟨hja,hi⟩:=hi;have hlen:o.length<=800000:=by rw[hi];have:=Re5 l a s j hja (by omega);omega
   have hn:=m9 hj (show a<=4611686018427387904 by omega)
   have bj:inB (j:Int) (l.length+1)=true:=f9 (by omega)
   obtain⟨j',e1⟩:=jg8 l hl a j ha hj x1 x2 (a:Int) (j:Int) o hlen
   have fin : ∀ {r : D6}, r = Nd3 l (j + 1) (G2 l a o j) → Nx (.next r) (fun t => t = phP (fil l (G1 l s a)) + 1 ∧ ∃ j' : Nat, Nd3 l j o = Nd3 l j' (G1 l s a))
     (λr=>∃o',r=Nd3 l (j+1) o'/\(j+1<=a/\o'=(List.range (j+1)).foldl (G2 l a) s)):=λ{r} hs =>
    .nx ⟨_,hs,by omega,by rw[o9,<- hi]⟩
   clear hi
   generalize hF:G2 l a o j=R at *
   unfold Nd3 at *
   unfold mkf at e1;cases hO:fil l o with
   |nil =>
    rw[hO] at e1 fin;show Nx (ea1 Stp.next Stp.exit Stp.fail _ _) _ _;simp only[ea1,i9,i6,hn,bj,Int.toNat_natCast,Nat.sub_zero];have e1:lp (aa7 ⟨(a:Int),(j:Int),x1,x2,(a:Int),(j:Int),(j:Int),l,l⟩) ⟨0,0,Ub9 o,0,[]⟩=_:=e1;rw[btD (i8 hj),e1];cases hR:fil l R with
    |nil=>exact fin (by rw[hR];rfl)
    |cons q R'=>exact fin (by rw[hR];rfl)
   |cons q o' =>
    rw[hO] at e1 fin;show Nx (ea2 Stp.next Stp.exit Stp.fail _ _) _ _;simp only[ea2,i9,i6,hn,bj,Int.toNat_natCast,Nat.sub_zero];have e1:lp (aa7 ⟨(a:Int),(j:Int),x1,x2,(a:Int),(j:Int),(j:Int),l,l⟩) ⟨1,0,Ub9 o,(q::o').length,bL tP (q::o')⟩=_:=e1;rw[btD (i8 hj),e1];cases hR:fil l R with
    |nil=>exact fin (by rw[hR];rfl)
    |cons q R'=>exact fin (by rw[hR];rfl))
  (λj o hj hi=>by
   obtain⟨h1,hi⟩:=hi;have e:j=a:=by omega
   subst e;have hF:o=G1 l s j:=hi;rw[<- hF];refine⟨_,?_,rfl,j,rfl⟩;unfold Nd3;cases hO:fil l o with
   |nil =>
    show ea1 Stp.next Stp.exit Stp.fail _ _=_;simp only[ea1];rw[bfD (n5 (Qlb _))];rfl
   |cons q o =>
    show ea2 Stp.next Stp.exit Stp.fail _ _=_;simp only[ea2];rw[bfD (n5 (Qlb _))]
    rfl) 0 s ⟨Qlf _,rfl⟩
 obtain⟨t,r,h1,rfl,j,rfl⟩:=key;exact⟨j,h1⟩
@[reducible] noncomputable def oe5(l:List V3)(k:Nat)(s:List Pln):F8:=⟨phP (fil l s),(k:Int),l,l,Ub9 s,(fil l s).length,bL tP (fil l s)⟩
theorem kg0 (l : List V3) (hl : l.length ≤ 48) :
  ∃j,lp (bb5 ⟨(l.length:Int)⟩) ⟨0,0,l,l,[],0,[]⟩=(phP (fil l (G0 l))+1,oe5 l j (G0 l)):=by
 have key:=P5 (step:=bb5 ⟨(l.length:Int)⟩) (mk:=oe5 l) l.length (λj o=>j<=l.length/\o=(List.range j).foldl (G1 l) []) (λt r=>t=phP (fil l (G0 l))+1/\∃j:Nat,r=oe5 l j (G0 l)) (by omega)
  (λj o hj hi=>by
   obtain⟨hja,hi⟩:=hi;have hlen:o.length<=700000:=by rw[hi];have:=oe4 l hl j hja;omega
   have hn:=m9 hj (show l.length<=4611686018427387904 by omega)
   have bj:inB (j:Int) (l.length+1)=true:=f9 (by omega)
   obtain⟨j',e1⟩:=jg9 l hl j hj (l.length:Int) (j:Int) o hlen
   have fin : ∀ {r : F8}, r = oe5 l (j + 1) (G1 l o j) → Nx (.next r) (fun t => t = phP (fil l (G0 l)) + 1 ∧ ∃ j' : Nat, oe5 l j o = oe5 l j' (G0 l))
     (λr=>∃o',r=oe5 l (j+1) o'/\(j+1<=l.length/\o'=(List.range (j+1)).foldl (G1 l) [])):=λ{r} hs =>
    .nx ⟨_,hs,by omega,by rw[o9,<- hi]⟩
   clear hi
   generalize hF:G1 l o j=R at *
   unfold oe5 at *
   unfold Nd3 at e1;cases hO:fil l o with
   |nil =>
    rw[hO] at e1 fin;show Nx (ea3 Stp.next Stp.exit Stp.fail _ _) _ _;simp only[ea3,i9,i6,hn,bj,Int.toNat_natCast,Nat.sub_zero];have e1:lp (la9 ⟨(j:Int),(l.length:Int),(j:Int),(j:Int)⟩) ⟨0,0,l,l,Ub9 o,0,[]⟩=_:=e1;rw[btD (i8 hj),e1];cases hR:fil l R with
    |nil=>exact fin (by rw[hR];rfl)
    |cons q R'=>exact fin (by rw[hR];rfl)
   |cons q o' =>
    rw[hO] at e1 fin;show Nx (ea4 Stp.next Stp.exit Stp.fail _ _) _ _;simp only[ea4,i9,i6,hn,bj,Int.toNat_natCast,Nat.sub_zero];have e1:lp (la9 ⟨(j:Int),(l.length:Int),(j:Int),(j:Int)⟩) ⟨1,0,l,l,Ub9 o,(q::o').length,bL tP (q::o')⟩=_:=e1;rw[btD (i8 hj),e1];cases hR:fil l R with
    |nil=>exact fin (by rw[hR];rfl)
    |cons q R'=>exact fin (by rw[hR];rfl))
  (λj o hj hi=>by
   obtain⟨h1,hi⟩:=hi;have e:j=l.length:=by omega
   subst e;have hF:o=G0 l:=hi;rw[<- hF];refine⟨_,?_,rfl,l.length,rfl⟩;unfold oe5;cases hO:fil l o with
   |nil =>
    show ea3 Stp.next Stp.exit Stp.fail _ _=_;simp only[ea3];rw[bfD (n5 (Qlb _))];rfl
   |cons q o =>
    show ea4 Stp.next Stp.exit Stp.fail _ _=_;simp only[ea4];rw[bfD (n5 (Qlb _))]
    rfl) 0 [] ⟨Qlf _,rfl⟩
 obtain⟨t,r,h1,rfl,j,rfl⟩:=key;exact⟨j,h1⟩
theorem Re6{F:List Pln}(h:∀p∈F,okp p=true){k:Nat}(hk:k<F.length):Bd (gL tP F k):=lb6 (h _ (lc1 tP hk))
theorem Rf9{n:V3}{r:Pln}(hn:Sm 42467328 n.x/\Sm 42467328 n.y/\Sm 42467328 n.z)(hr:Bd r):j7 n r.n=dot n r.n:=by
 obtain⟨⟨a1,a2⟩,⟨a3,a4⟩,a5,a6⟩:=hn;have r1:=mb a1 a2 hr.x1 hr.x2;have r2:=mb a3 a4 hr.y1 hr.y2;have r3:=mb a5 a6 hr.z1 hr.z2;unfold j7;simp only[Va9,pb8];rw[E4 (by omega) (by omega)]
 rfl
theorem Sf0 (l : List Pln) (n : V3) (hn : Sm 42467328 n.x ∧ Sm 42467328 n.y ∧ Sm 42467328 n.z) (hF : ∀ p ∈ l, okp p = true) (hl : l.length ≤ 1000000000) :
  ca8 ⟨l,n.x,n.y,n.z⟩=⟨1,if l.any (λr=>dot n r.n != 0) then ((l.findIdx (λr=>dot n r.n != 0):Nat):Int) else -1⟩:=by
 have h:=wa3 (step:=K4 ⟨l,(l.length:Int),n.x,n.y,n.z⟩) (mk:=λj=>(⟨(j:Int)⟩:p9)) (c:=λr=>dot n r.n != 0) (u:=1) (fin:=2) tP l hl
  (λj hj=>by
   have e:=Rf9 hn (Re6 hF hj);simp only[K4,H6,Int.toNat_natCast,Bb3,ua2,e,m9 hj (show l.length<=4611686018427387904 by omega)]
   rw[btD (i8 hj),bt (f9 hj)])
  (by simp only[K4,H6];rw[bfD (n5 (Qlb _))]) 0 (Qlf _)
 rw[Qlk] at h;unfold ca8 I7;simp only[i9,i6];rw[show (⟨0⟩:p9)=⟨((0:Nat):Int)⟩ from rfl,h]
 split
 ·simp only[Qle];rfl
 ·rfl
theorem Sf1 (l : List Pln) (n : V3) (hn : Sm 42467328 n.x ∧ Sm 42467328 n.y ∧ Sm 42467328 n.z) (hF : ∀ p ∈ l, okp p = true) (hl : l.length ≤ 1000000000) :
  U7 ⟨l,n.x,n.y,n.z⟩=⟨1,l.any λr=>dot n r.n != 0⟩:=by
 unfold U7 D2;simp only[i9,i6,Sf0 l n hn hF hl];split
 ·rename_i h;rw[h,show decide (((l.findIdx (λr=>dot n r.n != 0):Nat):Int)>=0)=true from decide_eq_true (by omega)];rfl
 ·rename_i h;rw[Qly] at h;rw[h];rfl
noncomputable def if8(l:List Pln)(a c:Nat):Bool:=l.any λr=>dot (d8 (gL tP l a).n (gL tP l c).n) r.n != 0
noncomputable def vtx(l:List Pln):Bool:=(List.range l.length).any λa=>(List.range a).any (if8 l a)
theorem if9{p q:Pln}(hp:Bd p)(hq:Bd q):D8 p.n q.n=d8 p.n q.n/\Sm 42467328 (d8 p.n q.n).x/\Sm 42467328 (d8 p.n q.n).y/\Sm 42467328 (d8 p.n q.n).z:=by
 obtain⟨k1,k2,k3⟩:=xc6 hp.n hq.n;refine⟨?_,k1,k2,k3⟩;rw[Wc8,za8 (k1.mono (by omega)),za8 (k2.mono (by omega)),za8 (k3.mono (by omega))]
theorem Re7 (l : List Pln) (hF : ∀ p ∈ l, okp p = true) (hl : l.length ≤ 1000000) (a : Nat) (ha : a < l.length) (x9 x10 : Int) :
  ∃j,lp (pa6 ⟨l,l,x9,x10,a,(λk=>(λk=>tP.row (gL tP l k)) (0+k)),(a:Int),(gL tP l a).n.x,(gL tP l a).n.y,(gL tP l a).n.z,(gL tP l a).b⟩) ⟨0⟩=(if (List.range a).any (if8 l a) then 1 else 2,⟨((j:Nat):Int)⟩) :=
 Md2 (step:=pa6 ⟨l,l,x9,x10,a,(λk=>(λk=>tP.row (gL tP l k)) (0+k)),(a:Int),(gL tP l a).n.x,(gL tP l a).n.y,(gL tP l a).n.z,(gL tP l a).b⟩) (mk:=λj=>(⟨(j:Int)⟩:aa8)) a (if8 l a) 1 2 (by omega)
  (λj hj=>by
   obtain⟨e,k1,k2,k3⟩:=if9 (Re6 hF ha) (Re6 hF (show j<l.length by omega))
   have rr:(⟨toI (hdA (tP.row (gL tP l j))),toI (hdA (tlA (tP.row (gL tP l j)))),toI (hdA (tlA (tlA (tP.row (gL tP l j)))))⟩:V3)=(gL tP l j).n:=rfl;have e':D8 ⟨(gL tP l a).n.x,(gL tP l a).n.y,(gL tP l a).n.z⟩ (gL tP l j).n=d8 (gL tP l a).n (gL tP l j).n:=e;simp only[pa6,wa6,Int.toNat_natCast,Qle,rr,e',Kd8,i9,i6,Sf1 l _ ⟨k1,k2,k3⟩ hF (show l.length<=1000000000 by omega),m9 hj (show a<=4611686018427387904 by omega)]
   rw[btD (i8 hj),bt (f9 hj)];unfold if8;cases hz:((d8 (gL tP l a).n (gL tP l j).n).x==0&&((d8 (gL tP l a).n (gL tP l j).n).y==0&&((d8 (gL tP l a).n (gL tP l j).n).z==0&&true))) with
   |false=>rfl
   |true =>
    simp only[Bool.and_true,Qlg,beq_iff_eq] at hz
    have:(l.any λr=>dot (d8 (gL tP l a).n (gL tP l j).n) r.n != 0)=false:=by
     rw[List.any_eq_false];intro r _
     have:dot (d8 (gL tP l a).n (gL tP l j).n) r.n=0:=by unfold dot;rw[hz.1,hz.2.1,hz.2.2];simp only[Int.zero_mul,Int.add_zero]
     rw[this]
     decide
    rw[this]
    rfl)
  (by simp only[pa6,wa6];rw[bfD (n5 (Qlb _))])
theorem de2(l:List Pln)(hF:∀p∈l,okp p=true)(hl:l.length<=1000000):Ya9 l=some (b (vtx l),[]):=by
 obtain⟨j,h⟩:=Md2 (step:=pa7 ⟨(l.length:Int)⟩) (mk:=λj=>(⟨l,l,(j:Int)⟩:aa9)) l.length (λa=>(List.range a).any (if8 l a)) 1 2 (by omega)
  (λj hj=>by
   obtain⟨j',h1⟩:=Re7 l hF hl j hj (l.length:Int) (j:Int);simp only[pa7,wa7,i9,i6,Int.toNat_natCast,Nat.sub_zero,m9 hj (show l.length<=4611686018427387904 by omega)]
   rw[btD (i8 hj),bt (f9 hj),bt (f9 (show j<l.length+1 by omega)),h1]
   cases (List.range j).any (if8 l j)<;>rfl)
  (by simp only[pa7,wa7];rw[bfD (n5 (Qlb _))])
 have h:lp (pa7 ⟨(l.length:Int)⟩) ⟨l,l,0⟩=(if vtx l then 1 else 2,⟨l,l,((j:Nat):Int)⟩):=h
 unfold Ya9;simp only[i9,i6];rw[h];cases vtx l<;>rfl
theorem Fe8(l:List Pln)(hF:∀p∈l,okp p=true)(hl:l.length<=1000000):Ja4 l=vtx l:=by unfold Ja4;rw[de2 l hF hl];rfl
theorem Fe9(l:List Pln)(hF:∀p∈l,okp p=true)(hl:l.length<=1000000):Ja5 l=true:=by unfold Ja5;rw[de2 l hF hl];rfl
theorem Sf2(l:List Pln):vtx l=true↔∃p q s,p∈l/\q∈l/\s∈l/\mw p q s≠0:=by
 unfold vtx;rw[Qld];constructor
 ·rintro⟨a,ha,h⟩;obtain⟨c,hc,h⟩:=Qld.1 h;rw[Qlr] at ha hc;obtain⟨r,hr,h⟩:=Qld.1 h;have h:dot (d8 (gL tP l a).n (gL tP l c).n) r.n≠0:=bne_iff_ne.1 h;exact⟨_,_,r,lc1 tP ha,lc1 tP (show c<l.length by omega),hr,λe=>h (by rw[<- e];simp only[mw,dot,d8];grind)⟩
 ·rintro⟨p,q,s,hp,hq,hs,hw⟩;obtain⟨i',hi,rfl⟩:=List.mem_iff_getElem.1 hp;obtain⟨j',hj,rfl⟩:=List.mem_iff_getElem.1 hq;have hne:i'≠j':=λe=>hw (by subst e;simp only[mw,dot,d8];grind)
  rw[<- Ma0 tP hi,<- Ma0 tP hj] at hw
  rcases Nat.lt_or_gt_of_ne hne with h|h
  ·refine⟨j',Qlr.2 hj,Qld.2 ⟨i',Qlr.2 h,Qld.2 ⟨s,hs,?_⟩⟩⟩
   have:dot (d8 (gL tP l j').n (gL tP l i').n) s.n≠0:=λe=>hw (by
    rw[show mw (gL tP l i') (gL tP l j') s=-dot (d8 (gL tP l j').n (gL tP l i').n) s.n from by simp only[mw,dot,d8];grind,e]
    rfl)
   exact bne_iff_ne.2 this
  ·refine⟨i',Qlr.2 hi,Qld.2 ⟨j',Qlr.2 h,Qld.2 ⟨s,hs,?_⟩⟩⟩
   have:dot (d8 (gL tP l i').n (gL tP l j').n) s.n≠0:=λe=>hw (by rw[<- e];simp only[mw,dot,d8];grind)
   exact bne_iff_ne.2 this
structure OkF(F:List Pln):Prop where
 l:F.length<=1000000
 v:∀p∈F,okp p=true
noncomputable def own(F:List Pln)(v:V3):List Pln:=F.filter λp=>fa8 p v==0
noncomputable def kv(F:List Pln)(v:V3):Bool:=vtx (own F v)
theorem jf0(F:List Pln)(v:V3)(hF:F.length<=1000000):∃j,lp (Aa2 ⟨F,(F.length:Int),F,v.x,v.y,v.z⟩) ⟨0,0,0,[]⟩=(phP (own F v)+1,⟨phP (own F v),((j:Nat):Int),(own F v).length,bL tP (own F v)⟩):=by
 have key:=P5 (step:=Aa2 ⟨F,(F.length:Int),F,v.x,v.y,v.z⟩) (mk:=λj (o:List Pln)=>(⟨phP o,(j:Int),o.length,bL tP o⟩:o6)) F.length (λj o=>j<=F.length/\o=(F.take j).filter λp=>fa8 p v==0) (λt s=>t=phP (own F v)+1/\∃j:Nat,s=⟨phP (own F v),(j:Int),(own F v).length,bL tP (own F v)⟩) (by omega)
  (λj o hj hi=>by
   obtain⟨_,hi⟩:=hi;have hlen:o.length<=1000000:=by
    rw[hi];have h1:=Qlaa (λp=>fa8 p v==0) (F.take j)
    have h2:=List.length_take_le j F;omega
   have hn:=m9 hj (show F.length<=4611686018427387904 by omega)
   have hb:=f9 hj;have hT:(F.take (j+1)).filter (λp=>fa8 p v==0)=o++(if (fa8 (gL tP F j) v==0)=true then [gL tP F j] else []):=by
    rw[Gb2 tP hj,Qlo,<- hi,Qlt,List.filter_nil]
   have hnext : ∀ {s : o6} {o' : List Pln}, o' = (F.take (j + 1)).filter (fun p => fa8 p v == 0) → s = ⟨phP o', ((j + 1 : Nat) : Int), o'.length, bL tP o'⟩ → Nx (.next s) (fun t => t = phP (own F v) + 1 ∧ ∃ j' : Nat, (⟨phP o, (j : Int), o.length, bL tP o⟩ : o6) = ⟨phP (own F v), (j' : Int), (own F v).length, bL tP (own F v)⟩)
     (λs=>∃o',s=(⟨phP o',((j+1:Nat):Int),o'.length,bL tP o'⟩:o6)/\(j+1<=F.length/\o'=(F.take (j+1)).filter λp=>fa8 p v==0)):=λ{s o'} ho' hs=>.nx ⟨o',hs,by omega,ho'⟩
   clear hi
   cases o with
   |nil =>
    show Nx (O1 Stp.next Stp.exit Stp.fail _ _) _ _;simp only[O1,Int.toNat_natCast,Zc1,Zc2,hn,hb];rw[btD (i8 hj)];cases hs:fa8 (gL tP F j) v==0 with
    |true=>exact hnext (o':=[gL tP F j]) (by rw[hT,hs];rfl) rfl
    |false=>exact hnext (o':=[]) (by rw[hT,hs];rfl) rfl
   |cons q o =>
    have rr:(Nat.beq (q::o).length (len (bL tP (q::o)))&&Nat.ble (((q::o).length+1)*32) room)=true:=fc6 rfl (by omega)
    have ap:∀(O:List Pln) (p:Pln),app (bL tP O) [[i p.n.x,i p.n.y,i p.n.z,i p.b]]=bL tP (O++[p]):=λO p=>Ka4 tP O [p]
    show Nx (O2 Stp.next Stp.exit Stp.fail _ _) _ _;simp only[O2,Int.toNat_natCast,Zc1,Zc2,hn,hb,rr,ap];rw[btD (i8 hj)];cases hs:fa8 (gL tP F j) v==0 with
    |true=>exact hnext (o':=q::o++[gL tP F j]) (by rw[hT,hs];rfl) (by rw[Qla];rfl)
    |false=>exact hnext (o':=q::o) (by rw[hT,hs,if_neg (by simp),Qlj]) rfl)
  (λj o hj hi=>by
   obtain⟨h1,hi⟩:=hi;have e:j=F.length:=by omega
   subst e;have hO:o=own F v:=by rw[hi,Qlak];rfl
   rw[<- hO];cases o with
   |nil =>
    refine⟨1,?_,rfl,F.length,rfl⟩;show O1 Stp.next Stp.exit Stp.fail _ _=_;simp only[O1];rw[bfD (n5 (Qlb _))]
   |cons q o =>
    refine⟨2,?_,rfl,F.length,rfl⟩;show O2 Stp.next Stp.exit Stp.fail _ _=_;simp only[O2];rw[bfD (n5 (Qlb _))]) 0 [] ⟨Qlf _,by simp⟩
 obtain⟨t,s,h1,rfl,j,rfl⟩:=key;exact⟨j,h1⟩
theorem oe6(v:V3)(F:List Pln)(hF:OkF F):ea5 ⟨v.x,v.y,v.z,F⟩=⟨1,!kv F v,F⟩:=by
 obtain⟨j,h⟩:=jf0 F v hF.l;have hv:∀p∈own F v,okp p=true:=λp hp=>hF.v p (Qlp.1 hp).1
 have hl:(own F v).length<=1000000:=Nat.le_trans (Qlaa _ _) hF.l;unfold ea5 pa8 kv;simp only[i9,i6];rw[h];cases ho:own F v with
 |nil =>
  have e:Ja4 []=vtx []:=Fe8 [] (λp hp=>by cases hp) (by simp)
  have e':Ja5 []=true:=Fe9 [] (λp hp=>by cases hp) (by simp)
  rw[e,e'];rfl
 |cons q o =>
  rw[ho] at hv hl;simp only[gb6,nb7,Fe8 _ hv hl,Fe9 _ hv hl];rfl
theorem Zf9{α:Type}{l:List α}{n:Nat}{c:α->Bool}(h:(l.take n).any c=true):(l.take n).findIdx c<(l.take n).length:=by
 rw[Qld] at h;obtain⟨p,hp,hc⟩:=h;exact Qlz ⟨p,hp,hc⟩
theorem Sf3(l:List V3)(n:Nat)(X:List Pln)(hn:n<=l.length)(hl:l.length<=1000000000)(hX:OkF X):ja7 ⟨n,bL tV l,X⟩=⟨1,if (l.take n).any (λp=>!kv X p) then (((l.take n).findIdx (λp=>!kv X p):Nat):Int) else -1,X⟩:=by
 have hlen:(l.take n).length=n:=by rw[Qlc];omega
 have h:=wa3 (step:=O3 ⟨n,(n:Int),bL tV l⟩) (mk:=λj=>(⟨(j:Int),X⟩:s8)) (c:=λp=>!kv X p) (u:=1) (fin:=2) tV (l.take n) (by omega)
  (λj hj=>by
   rw[hlen] at hj;have hj':j<l.length:=by omega
   simp only[O3,M4,Int.toNat_natCast,i9,i6,ne8 hj',Md8 hj',oe6 _ _ hX,ce7 tV l hj,m9 hj (show n<=4611686018427387904 by omega)]
   rw[btD (i8 hj),bt (f9 hj)]
   rfl)
  (by rw[hlen];simp only[O3,M4];rw[bfD (n5 (Qlb _))]) 0 (Qlf _)
 rw[Qlk,hlen] at h;unfold ja7 N1;simp only[i9,i6];rw[show (⟨0,X⟩:s8)=⟨((0:Nat):Int),X⟩ from rfl,h]
 cases ha:(l.take n).any λp=>!kv X p with
 |false=>rfl
 |true =>
  have hf:=Zf9 ha;rw[hlen] at hf;simp only[if_true,Qle,Int.toNat_natCast,Md8 (show (l.take n).findIdx (λp=>!kv X p)<l.length by omega),oe6 _ _ hX,i9]
  rfl
structure Sf4(l:List V3)(n:Nat)(f:V3->Bool)(cur:List V3)(m j:Nat):Prop where
 len:cur.length=l.length
 t:cur.take m=(l.take j).filter f
 d:cur.drop j=l.drop j
 le:m<=j
 lm:m<=n
theorem oe7 (l : List V3) (n : Nat) (hnl : n ≤ l.length) (X : List Pln) (hl : l.length ≤ 1000000000) (hX : OkF X) (m j : Nat) (cur : List V3) (hd : Sf4 l n (kv X) cur m j) (hjn : j ≤ n) :
  ∃t s,lp (F9 ⟨n⟩) ⟨(m:Int),(j:Int),bL tV cur,X⟩=(t,s)/\(t=1/\∃m' cur',s=⟨((m':Nat):Int),((n:Nat):Int),bL tV cur',X⟩/\Sf4 l n (kv X) cur' m' n):=by
 refine P5 (step:=F9 ⟨n⟩) (mk:=λj (x:Nat×List V3)=>(⟨(x.1:Int),(j:Int),bL tV x.2,X⟩:z6)) n (λj x=>Sf4 l n (kv X) x.2 x.1 j/\j<=n) (λt s=>t=1/\∃m' cur',s=⟨((m':Nat):Int),((n:Nat):Int),bL tV cur',X⟩/\Sf4 l n (kv X) cur' m' n) (by omega) (λj x hj hx=>?_) (λj x hj hx=>?_) j (m,cur) ⟨hd,hjn⟩
 ·obtain⟨m,cur⟩:=x;obtain⟨⟨h1,h2,h3,h4,h5⟩,_⟩:=hx
  simp only at h1 h2 h3 h4 h5
  have hjc:j<cur.length:=by omega
  have hmc:m<cur.length:=by omega
  have hg:gL tV cur j=gL tV l j:=id6 tV h3;have hWm:W ((m:Int)+1)=((m+1:Nat):Int):=by rw[E4 (by omega) (by omega)];omega
  have hb:Nat.blt m cur.length=true:=by rw[Nat.blt_eq];exact hmc
  have hrow:o0 (bL tV cur) m=tV.row (gL tV cur m):=pa5 tV hmc;have sp:∀(v:V3) (x1 x2 x3:Int),da4 (tV.row v) 0 [i x1,i x2,i x3]=tV.row ⟨x1,x2,x3⟩:=λ_ _ _ _=>rfl
  have rl:∀v:V3,Nat.ble (0+3) (len (tV.row v))=true:=λ_=>rfl
  simp only[F9,M5,Int.toNat_natCast,i9,i6,ne8 hjc,Md8 hjc,oe6 _ _ hX,m9 hj (show n<=4611686018427387904 by omega),hWm]
  rw[btD (i8 hj),bt (f9 hj)];simp only[Qle,hrow,V2,hb,sp,sc9,f9 (show m<n by omega),hg]
  have ht:=Gb2 tV (show j<l.length by omega)
  have hd1:cur.drop (j+1)=l.drop (j+1):=Xc8 h3 1;cases hk:kv X (gL tV l j) with
  |true =>
   refine .nx ⟨(m+1,cur.set m (gL tV l j)),rfl,⟨by rw[Qlab];exact h1,?_,?_,by omega,by show m+1<=n;omega⟩,by omega⟩
   ·show (cur.set m (gL tV l j)).take (m+1)=_;rw[ht,Qlo,Qlx (by rw[Qlab];exact hmc),Qlao,List.take_set_of_le (Qll _),h2,Qlt,hk,if_pos rfl,List.filter_nil]
   ·show (cur.set m (gL tV l j)).drop (j+1)=_;rw[List.drop_set_of_lt (by omega),hd1]
  |false =>
   refine .nx ⟨(m,cur),rfl,⟨h1,?_,hd1,by omega,h5⟩,by omega⟩
   show cur.take m=_;rw[ht,Qlo,h2,Qlt,hk,if_neg (by simp),List.filter_nil,Qlj]
 ·obtain⟨m,cur⟩:=x;obtain⟨hx,hjn⟩:=hx;have e:j=n:=by omega
  subst e;refine⟨1,?_,rfl,m,cur,rfl,hx⟩;simp only[F9,M5];rw[bfD (by omega)]
theorem Re8 (l : List V3) (n : Nat) (hnl : n ≤ l.length) (X : List Pln) (hl : l.length ≤ 1000000000) (hX : OkF X) :
  ∃m r,ka0 ⟨n,bL tV l,X⟩=⟨1,m,bL tV r,X⟩/\m<=r.length/\r.take m=(l.take n).filter (kv X):=by
 have hlen:(l.take n).length=n:=by rw[Qlc];omega
 unfold ka0 N2;simp only[i9,i6,Sf3 l n X hnl hl hX];cases ha:(l.take n).any λp=>!kv X p with
 |false =>
  refine⟨n,l,rfl,hnl,?_⟩
  symm
  rw[List.filter_eq_self];intro p hp
  have:=List.any_eq_false.1 ha p hp
  simpa using this
 |true =>
  have hf:=Zf9 ha;have hk:kv X (gL tV (l.take n) ((l.take n).findIdx λp=>!kv X p))=false:=by
   have:=Qls (xs:=l.take n) (p:=λp=>!kv X p) (w:=hf)
   rw[Ma0 tV hf];simpa using this
  have ht:=Xc7 (λp=>!kv X p) (l.take n)
  simp only[Bool.not_not] at ht;generalize hF:(l.take n).findIdx (λp=>!kv X p)=F at *
  rw[hlen] at hf;rw[ce7 tV l hf] at hk;rw[Qlap,Nat.min_eq_left (by omega)] at ht
  have hW:W ((F:Int)+1)=((F+1:Nat):Int):=m9 hf (by omega)
  have hne:((F:Int)==-1)=false:=by rw[beq_eq_false_iff_ne];omega
  obtain⟨t,s,e1,rfl,m,cur,e2,e3⟩:=oe7 l n hnl X hl hX F (F+1) l ⟨rfl,by rw[Gb2 tV (show F<l.length by omega),Qlo,ht,Qlt,hk,if_neg (by simp),List.filter_nil,Qlj],rfl,by omega,by omega⟩ (by omega)
  have hm:m<=n:=e3.lm;have hin:inB (m:Int) (n+1)=true:=f9 (by omega)
  simp only[if_true,hW,hne,e1,e2,Int.toNat_natCast,hin,Qle,Nat.sub_zero];refine⟨m,cur.take m++(List.replicate (n-m) ⟨0,0,0⟩++cur.drop (m+(n-m))),?_,?_,?_⟩
  ·rw[Fe0,Fe1,Md9,Ka4,Ka4];rfl
  ·rw[Qla,Qla,Qlc,Qlaq,e3.len];omega
  ·rw[Qlq (by rw[Qlc,e3.len];omega),Qlap,Nat.min_self,e3.t]
noncomputable def Ra2(F:List Pln)(l:List V3):List V3:=(dis l).filter (kv F)
theorem oe8(a:V3)(l:List V3)(hl:l.length<=1000000):∃m r,Ta1 (a,l)=⟨1,m,bL tV r⟩/\m<=r.length/\r.take m=dis (a::l)/\r.length<=1000000000:=by
 obtain⟨m,r,k1,k2,k3,k4⟩:=Zc0 a l hl;have hok:okL tV (l.length+1) (λk=>tV.row (gL tV (a::l) k))=true:=nb6 tV (f:=λk=>gL tV (a::l) k) λ_ _=>rfl
 have hr:=Fe3 (a::l) (by simp only[List.length_cons];omega) []
 rw[Qlj] at hr;unfold Ta1 pa9;simp only[Ue3,Ue4,ce5 a l hl,hok,k1,l9,Qlaj,hr];exact⟨m,r,rfl,k2,k3,by omega⟩
end Go.Ev.Ce
namespace Go.Ev.Ce
open Go Go.Ev Go.Ev.L Go.Proofs Go.Sort
theorem jf1(l:List V3)(a c k:Nat)(s:List Pln)(p:Pln):p∈Jc2 l a c s k↔p∈s\/((A6 (gL tV l k) (gL tV l c) (gL tV l a)).2=true/\(p=(A6 (gL tV l k) (gL tV l c) (gL tV l a)).1\/p=ba4 (A6 (gL tV l k) (gL tV l c) (gL tV l a)).1)):=by
 unfold Jc2;generalize A6 (gL tV l k) (gL tV l c) (gL tV l a)=T;cases h2:T.2 with
 |false=>simp
 |true=>simp only[if_true,Bf9,true_and,or_assoc]
theorem kg1(l:List V3)(p:Pln):p∈G0 l↔∃a,a<l.length/\∃c,c<a/\∃k,k<c/\((A6 (gL tV l k) (gL tV l c) (gL tV l a)).2=true/\(p=(A6 (gL tV l k) (gL tV l c) (gL tV l a)).1\/p=ba4 (A6 (gL tV l k) (gL tV l c) (gL tV l a)).1)):=by
 have h:p∈G0 l↔p∈[]\/_:=Pb0 (λo a p=>Pb0 (λo c p=>Pb0 (λo k p=>jf1 l a c k o p) o p c) o p a) [] p l.length
 rw[h];simp only[List.not_mem_nil,false_or]
theorem oe9{f:List Pln->Nat->List Pln}(h:∀o k,o.Nodup->(f o k).Nodup){o:List Pln}(ho:o.Nodup):∀n,((List.range n).foldl f o).Nodup
 |0=>ho
 |n+1=>by rw[o9];exact h _ _ (oe9 h ho n)
theorem Cf1(l:List V3):(G0 l).Nodup:=oe9 (λo a ho=>oe9 (λo c ho=>oe9 (λo k ho=>by
 show (Jc2 l a c o k).Nodup;unfold Jc2;split
 ·exact Nd2 (Nd2 ho)
 ·exact ho) ho c) ho a) List.nodup_nil l.length
theorem Sf5{l:List V3}(hl:l.all inV=true)(p:Pln):p∈fil l (G0 l)↔Vd9 l p:=by
 have hin:=Qli.1 hl;have hb:(!bey l p)=hold p l:=rfl;unfold fil;rw[Qlp,kg1,hb];constructor
 ·rintro⟨⟨a,ha,c,hc,k,hk,h1,h2⟩,h3⟩;have ma:=gLm ha;have mc:=gLm (show c<l.length by omega)
  have mk:=gLm (show k<l.length by omega)
  have ht:=(oa5 h1).2
  rcases h2 with rfl|rfl
  ·exact ne7 mk mc ma ht ((mb0 ht.ok hl).1 h3)
  ·exact Md7 mk mc ma ht ((mb0 (yc3 ht.ok) hl).1 h3)
 ·intro h;obtain⟨u,w,x,hu,hw,hx,h3,t1,t2,t3⟩:=h.on;obtain⟨a,ha,c,hc,k,hk,hn,hall⟩:=jg4 hu hw hx h3;obtain⟨i1,i2,i3⟩:=hall (λv=>inV v=true) (hin u hu) (hin w hw) (hin x hx)
  obtain⟨e1,e2,e3⟩:=hall (λv=>dot p.n v=p.b) t1 t2 t3
  have h2:=fc5 i3 i2 i1 (Af6 hn).2.2.1;exact⟨⟨a,ha,c,hc,k,hk,h2,Md6 (oa5 h2).2 h.ok e3 e2 e1⟩,(mb0 h.ok hl).2 h.hd⟩
theorem de3{l r:List V3}(h:∀v,v∈r↔v∈l){p:Pln}(hp:Vd9 l p):Vd9 r p:=by
 obtain⟨⟨hd,u,w,x,hu,hw,hx,e⟩,ok⟩:=hp;exact⟨⟨λv hv=>hd v ((h v).1 hv),u,w,x,(h u).2 hu,(h w).2 hw,(h x).2 hx,e⟩,ok⟩
theorem Re9{l:List Pln}(h:l.Nodup):lb9 (Hc0 l):=by
 have h1:=ne0 l;have h2:(Hc0 l).Nodup:=(Ld6 l).nodup_iff.2 h;have h3:=h1.and h2;refine h3.imp λ{x y} ⟨k1,k2⟩=>?_
 rw[ob9] at k1;have k1:¬ LtP y x:=by simpa using k1
 rcases Ye8 x y with h|h|h
 ·exact h
 ·exact absurd h k2
 ·exact absurd h k1
theorem Sf6{l:List V3}(hl:l.all inV=true):(dis l).all inV=true:=Qli.2 λv hv=>Qli.1 hl v ((Cc2 l v).1 hv)
theorem Ge0{l:List V3}(hl:l.all inV=true):Hc0 (fil (dis l) (G0 (dis l)))=F0 l:=by
 refine id9 (Re9 ((Cf1 (dis l)).filter _)) (Qe9 l) λp=>?_
 rw[(Ld6 _).mem_iff,Sf5 (Sf6 hl),Gb3 hl];exact⟨de3 λv=>(Cc2 l v).symm,de3 (Cc2 l)⟩
theorem wg1{l:List V3}(hl:l.all inV=true)(h4:Sol l):F0 l≠[]:=λe=>by
 have h:=Cc0 h4 (Ze7 hl (c:=[]) λp hp=>by rw[<- Gb3 hl,e] at hp;exact hp) (x:=⟨100,0,0,1⟩) ⟨by show (0:Int)<1;omega,λp hp=>by cases hp⟩ (h:=⟨⟨1,0,0⟩,24⟩) λv hv=>by
  obtain⟨⟨a1,a2⟩,_,_⟩:=(cb0 v).1 (Qli.1 hl v hv);simp only[dot];omega
 simp only[rmZ] at h;omega
theorem jd4{l:List V3}(h48:l.length<=48)(hl:l.all inV=true)(h4:Sol l):xb8 l=0:=by
 have hin:=Qli.1 hl;unfold xb8;rw[if_neg (by omega),if_neg (by rw[<- List.not_all_eq_any_not,hl];simp)]
 have h1:(ixs l.length).any (sp1 l)=true:=by
  obtain⟨a,c,k,v,ha,hc,hk,hv,hd⟩:=h4;obtain⟨i',hi,j',hj,k',hk',hn,hall⟩:=jg4 ha hc hk (Re0 hd);obtain⟨i1,i2,i3⟩:=hall (λv=>inV v=true) (hin _ ha) (hin _ hc) (hin _ hk)
  have ht:=fc5 i3 i2 i1 (Af6 hn).2.2.1;have mem:∀{n m:Nat},m<n->((m:Nat):Int)∈ixs n:=λ{n m} h=>List.mem_map.2 ⟨m,Qlr.2 h,rfl⟩
  refine Qld.2 ⟨_,mem hi,?_⟩;unfold sp1;rw[Int.toNat_natCast];refine Qld.2 ⟨_,mem hj,?_⟩;unfold sp2;rw[Int.toNat_natCast];refine Qld.2 ⟨gL tV l k',?_,ht⟩;rw[<- ce7 tV l hk'];exact lc1 tV (by rw[Qlc];omega)
 have h2:Jc1 l=false:=by
  unfold Jc1;rw[if_pos h1];obtain⟨hi,k1⟩:=Cc3 h1;have k1:(ixs (iF l)).any (sp2 l (iF l))=true:=k1;obtain⟨hj,k2⟩:=Cc3 k1;have k2:(l.take (jF l)).any (λv=>(A6 v (gL tV l (jF l)) (gL tV l (iF l))).2)=true:=k2
  have hj:jF l<iF l:=hj;have hi:iF l<l.length:=hi;have hk:=oe1 k2;have hk2:=Qls (xs:=l.take (jF l)) (p:=λv=>(A6 v (gL tV l (jF l)) (gL tV l (iF l))).2) (w:=hk)
  rw[<- Ma0 tV hk,ce7 tV l (by rw[Qlc] at hk;omega)] at hk2
  have hok:okp (plF l)=true:=(oa5 hk2).2.ok;obtain⟨v,hv,hne⟩:=h4.off (od2 hok) (plF l).b;rw[Bool.not_eq_false',Qld];refine⟨v,hv,?_⟩
  have:fa8 (plF l) v≠0:=λe=>hne ((Bc8 hok (hin v hv)).1 e)
  simpa using this
 rw[h2];rfl
theorem Sf7(l r:List Pln)(n:Nat)(hn:n=l.length):(two (r1L tP) r1I).rd (.tup [.sl 0 0 n 0,i 0],[⟨73,4,bL tP (l++r),true,false,0⟩])=some (l,0):=by
 subst hn;have h:(r1L tP).rd [⟨73,4,bL tP (l++r),true,false,0⟩] (.sl 0 0 l.length 0)=some l:=by
  show Bool.rec (motive:=λ_=>Option (List Pln)) none (some (slR tP (bL tP (l++r)) 0 l.length)) (Bool.and true (okS tP (bL tP (l++r)) 0 l.length))=_
  rw[xf2 _ _ (by rw[Qla];omega),xf3 _ _ (by rw[Qla];omega),List.take_left']
  ·rfl
  ·rfl
 simp only[two,h];rfl
theorem jf2(a:V3)(l:List V3)(h48:(a::l).length<=48)(hl:(a::l).all inV=true)(h4:Sol (a::l)):Rd (two (r1L tP) r1I) (Ea4 (a,l)) (λr=>r=(F0 (a::l),0)):=by
 have hc:=jd4 h48 hl h4;have hdl:=oe0 (a::l);have hll:l.length<=1000000:=by simp only[List.length_cons] at h48;omega
 obtain⟨j,e⟩:=kg0 (dis (a::l)) (by omega)
 have hf:=Ge0 hl;have hne:fil (dis (a::l)) (G0 (dis (a::l)))≠[]:=λe=>by
  rw[e] at hf;have h0:Hc0 []=[]:=hf5;rw[h0] at hf;exact wg1 hl h4 hf.symm
 have hok:okL tV (l.length+1) (λk=>tV.row (gL tV (a::l) k))=true:=nb6 tV (f:=λk=>gL tV (a::l) k) λ_ _=>rfl
 have hlen:(fil (dis (a::l)) (G0 (dis (a::l)))).length<=1000000:=by
  have h1:=oe3 (dis (a::l)) (G0 (dis (a::l)));have h2:(G0 (dis (a::l))).length<=_:=oe4 (dis (a::l)) (by omega) _ (Qll _)
  omega
 unfold Ea4;simp only[i9,J1,i6,Ue3,Ue4,hok,Nd1 (a::l) (by omega),Nd0 (a::l) (by omega),hc,Re2 a l hll,Re3 a l hll,e]
 generalize fil (dis (a::l)) (G0 (dis (a::l)))=O at *
 cases O with
 |nil=>exact absurd rfl hne
 |cons q o =>
  have hr:(Bool.and (Nat.ble (q::o).length room) (Bool.and (Nat.ble (q::o).length (len (bL tP (q::o)))) (okS tP (bL tP (q::o)) 0 (q::o).length)))=true:=by
   rw[nb7,V2,Qlg,Qlg,Qlah,Qlah];refine⟨by unfold room;omega,Qll _,rfl⟩
  simp only[phP,hr,gb6,Pf0,Ka4,hf];exact⟨_,(F0 (a::l),0),rfl,Sf7 _ _ _ (by rw[<- hf,Bc2]),rfl⟩
theorem Cf2{l:List V3}(hl:l.all inV=true){v:V3}(hv:v∈l):kv (F0 l) v=true↔Spn (F0 l) v:=by
 have hin:=Qli.1 hl;have hs:∀p∈F0 l,(fa8 p v==0)=true↔dot p.n v=p.b:=λp hp=>by rw[beq_iff_eq];exact Bc8 (ne5 hp).ok (hin v hv)
 unfold kv own;rw[Sf2];constructor
 ·rintro⟨p,q,s,hp,hq,hs',hw⟩;rw[Qlp] at hp hq hs';exact⟨p,q,s,hp.1,hq.1,hs'.1,hw,(hs p hp.1).1 hp.2,(hs q hq.1).1 hq.2,(hs s hs'.1).1 hs'.2⟩
 ·rintro⟨p,q,s,hp,hq,hs',hw,e1,e2,e3⟩;exact⟨p,q,s,Qlp.2 ⟨hp,(hs p hp).2 e1⟩,Qlp.2 ⟨hq,(hs q hq).2 e2⟩,Qlp.2 ⟨hs',(hs s hs').2 e3⟩,hw⟩
end Go.Ev.Ce
namespace Go.Ev.Ce
open Go Go.Ev Go.Ev.L Go.Proofs
structure B8(v:V3):Prop where
 x:Sm 8 v.x
 y:Sm 8 v.y
 z:Sm 8 v.z
structure Mp(l:List V3):Prop where
 l4:4<=l.length
 l8:l.length<=8
 bd:∀v∈l,Sm 11 v.x/\Sm 11 v.y/\Sm 11 v.z
 nf:nf0 l=true
theorem Mp.inV{l:List V3}(h:Mp l):l.all inV=true:=Qli.2 λv hv=>by
 obtain⟨h1,h2,h3⟩:=h.bd v hv;exact (cb0 v).2 ⟨h1.mono (by omega),h2.mono (by omega),h3.mono (by omega)⟩
theorem jd5{l:List V3}(h:xb8 l=0):l.length<=48/\l.all inV=true/\Sol l:=by
 unfold xb8 at h
 split at h
 ·cases h
 rename_i h48
 split at h
 ·cases h
 rename_i hin
 split at h
 ·cases h
 rename_i hf;have hl:l.all inV=true:=by
  rw[Qli];intro v hv;cases hi:inV v with
  |true=>rfl
  |false=>exact absurd (Qld.2 ⟨v,hv,by rw[hi];rfl⟩) hin
 have hin2:=Qli.1 hl;refine⟨by omega,hl,?_⟩
 have hf:Jc1 l=false:=Bool.eq_false_iff.2 hf;unfold Jc1 at hf
 split at hf
 ·rename_i h1;obtain⟨hi,k1⟩:=Cc3 h1;have k1:(ixs (iF l)).any (sp2 l (iF l))=true:=k1;obtain⟨hj,k2⟩:=Cc3 k1;have k2:(l.take (jF l)).any (λv=>(A6 v (gL tV l (jF l)) (gL tV l (iF l))).2)=true:=k2
  have hj:jF l<iF l:=hj;have hi:iF l<l.length:=hi;have hk:=oe1 k2;have hk2:=Qls (xs:=l.take (jF l)) (p:=λv=>(A6 v (gL tV l (jF l)) (gL tV l (iF l))).2) (w:=hk)
  rw[Qlc] at hk;rw[<- Ma0 tV (by rw[Qlc];exact hk),ce7 tV l (by omega)] at hk2
  have ht:=(oa5 hk2).2;rw[Bool.not_eq_false',Qld] at hf;obtain⟨v,hv,hne⟩:=hf;have hne:fa8 (plF l) v≠0:=bne_iff_ne.1 hne;have ht:Thr (gL tV l (kF l)) (gL tV l (jF l)) (gL tV l (iF l)) (plF l):=ht;have hkl:kF l<l.length:=by
   have:kF l<min (jF l) l.length:=hk
   omega
  have hoff:dot (plF l).n v≠(plF l).b:=λe=>hne ((Bc8 ht.ok (hin2 v hv)).2 e)
  refine⟨_,_,_,v,gLm hkl,gLm (show jF l<l.length by omega),gLm hi,hv,λh0=>hoff ?_⟩
  obtain⟨ok,⟨g,hg,e1,e2,e3⟩,o⟩:=ht;have e:g*(dot (plF l).n v-(plF l).b)=dot (N3 (gL tV l (kF l)) (gL tV l (jF l)) (gL tV l (iF l))) (G6 v (gL tV l (kF l))):=by
   have e1:g*(plF l).n.x=(N3 (gL tV l (kF l)) (gL tV l (jF l)) (gL tV l (iF l))).x:=e1;have e2:g*(plF l).n.y=(N3 (gL tV l (kF l)) (gL tV l (jF l)) (gL tV l (iF l))).y:=e2;have e3:g*(plF l).n.z=(N3 (gL tV l (kF l)) (gL tV l (jF l)) (gL tV l (iF l))).z:=e3;rw[o];simp only[dot];rw[<- e1,<- e2,<- e3];simp only[G6]
   grind
  rw[h0] at e
  have:=(Int.mul_eq_zero.1 e).resolve_left (by omega)
  omega
 ·cases hf
noncomputable def Zb8(l:List V3):List Pln×Int:=if xb8 l=0 then (F0 l,0) else ([],xb8 l)
noncomputable def Zc3(l:List V3):List V3×Int:=if xb8 l=0 then (Ra2 (F0 l) l,0) else ([],xb8 l)
theorem Ge1{l:List V3}(h48:l.length<=48)(hl:l.all inV=true):(F0 l).length<=1000000:=by
 have h1:=oe3 (dis l) (G0 (dis l));have hd:=oe0 l;have h2:(G0 (dis l)).length<=_:=oe4 (dis l) (by omega) _ (Qll _)
 rw[<- Ge0 hl,Bc2];omega
theorem Nd4(a:V3)(l:List V3)(hl:l.length<=900000):Rd (two (r1L tP) r1I) (Ea4 (a,l)) (λr=>r=Zb8 (a::l)):=by
 by_cases h:xb8 (a::l)=0
 ·obtain⟨h1,h2,h3⟩:=jd5 h;unfold Zb8;rw[if_pos h];exact jf2 a l h1 h2 h3
 ·have hll:(a::l).length<=1000000:=by simp only[List.length_cons];omega
  have hne:(xb8 (a::l) != 0)=true:=bne_iff_ne.2 h;unfold Zb8 Ea4;rw[if_neg h];simp only[i9,J1,i6,Nd1 (a::l) hll,Nd0 (a::l) hll,hne,l9];exact⟨_,([],xb8 (a::l)),rfl,rfl,rfl⟩
theorem yc4:xb8 []=11:=by
 unfold xb8 Jc1;rfl
noncomputable def Zb9(l:List V3):List Pln×Int:=Zb8 l
noncomputable def Jc3(l:List V3):Bool:=decide (1<=l.length/\l.length<=900000)
theorem kg2{f:Nat}{A B:Sum}(hA:i5 prog G f A)(hB:i5 prog G f B):i5 prog G f (λargs blks=>match args,blks with
 |[.v (.slice none 0 0)],[]=>A args blks
 |_,_=>B args blks):=by
 intro args blks r out he
 simp only at he
 split at he
 ·exact hA _ _ r out he
 ·exact hB _ _ r out he
theorem Cf3:sb7 ()=Zb8 []/\sb8 ()=true:=by
 have h:Za2 ()=some (.tup [.v (.slice none 0 0),i 11],[]):=by
  unfold Za2;simp only[Nd1 [] (by simp),Nd0 [] (by simp),yc4]
  rfl
 unfold sb7 sb8 Zb8;rw[h,yc4];exact⟨rfl,rfl⟩
theorem Zc4(a:V3)(l:List V3)(hl:l.length<=900000):Rd (two (r1L tV) r1I) (Ra0 (a,l)) (λr=>r=Zc3 (a::l)):=by
 have hok:okL tV (l.length+1) (λk=>tV.row (gL tV (a::l) k))=true:=nb6 tV (f:=λk=>gL tV (a::l) k) λ_ _=>rfl
 have hp:lc3 (a,l)=Zb8 (a::l):=(Nd4 a l hl).p;have hq:lc4 (a,l)=true:=(Nd4 a l hl).g;unfold Zc3;unfold Ra0;simp only[i9,J1,i6,Ue3,Ue4,hok,hp,hq,l9];unfold Zb8;by_cases h:xb8 (a::l)=0
 ·obtain⟨h1,h2,h3⟩:=jd5 h;have hF:OkF (F0 (a::l)):=⟨Ge1 h1 h2,λp hp=>(ne5 hp).ok⟩
  obtain⟨m,r,e1,e2,e3,e4⟩:=oe8 a l (by omega)
  obtain⟨m',r',k1,k2,k3⟩:=Re8 r m e2 (F0 (a::l)) e4 hF;rw[if_pos h,if_pos h];simp only[e1,k1];refine⟨_,(r'.take m',0),rfl,?_,by rw[k3,e3];rfl⟩
  have h:(r1L tV).rd [⟨27,3,bL tV r',true,false,0⟩] (.sl 0 0 m' 0)=some (r'.take m'):=by
   show Bool.rec (motive:=λ_=>Option (List V3)) none (some (slR tV (bL tV r') 0 m')) (Bool.and true (okS tV (bL tV r') 0 m'))=_
   rw[ce4 _ _ k2,jd3 _ _ k2];rfl
  simp only[two,h];rfl
 ·have hne:(xb8 (a::l) != 0)=true:=bne_iff_ne.2 h;rw[if_neg h,if_neg h];simp only[hne,l9];exact⟨_,([],xb8 (a::l)),rfl,rfl,rfl⟩
noncomputable def cb1(l:List V3):List V3×Int:=Zc3 l
noncomputable def cb2(l:List V3):Bool:=decide (1<=l.length/\l.length<=900000)
noncomputable def pc0:Sum:=O9 (ea7 tV) λl=>.guard (cb2 l) (.ret ((two (r1L tV) r1I).enc (cb1 l),[]))
noncomputable def pc1:Sum:=λargs blks=>match args,blks with
 |[.v (.slice none 0 0)],[]=>oc8 args blks
 |_,_=>pc0 args blks
theorem wg2:bb8 ()=Zc3 []/\bb9 ()=true:=by
 have h:Ha8 ()=some (.tup [.v (.slice none 0 0),i 11],[]):=by
  unfold Ha8;simp only[Cf3.1,Cf3.2,Zb8,yc4];rfl
 unfold bb8 bb9 Zc3;rw[h,yc4];exact⟨rfl,rfl⟩
theorem jd6:i5 prog G 35 pc0:=by
 refine fg5 (le8 td2 λa r hr=>?_) (le8 ec7 λa r hr=>?_) (le8 hd4 λa r hr=>?_)
 ·obtain⟨p,c⟩:=a;obtain⟨hg,hr⟩:=DT.run_guard_some hr;have hl:c.length<=900000:=by
   have:=(of_decide_eq_true hg).2
   simp only[List.length_cons] at this;omega
  have hp:xc0 (p,c)=Zc3 (p::c):=(Zc4 p c hl).p;have hq:xc1 (p,c)=true:=(Zc4 p c hl).g;rw[hp,hq];exact hr
 ·obtain⟨hg,hr⟩:=DT.run_guard_some hr;exact absurd (of_decide_eq_true hg).1 (by simp)
 ·obtain⟨hg,hr⟩:=DT.run_guard_some hr;exact absurd (of_decide_eq_true hg).1 (by simp)
theorem jd7:i5 prog G 35 pc1:=kg2 ec7 jd6
set_option maxRecDepth 100000
structure cb3 where
 (f7 W8:List V3)
noncomputable def qb2:List (Nat×Sum):=[(34,Tb2)]
theorem Zc5:i7 prog G qb2:=⟨jc2,trivial⟩
structure G3 where
 (W8 za5:List V3)
 (xa5 v8:Int)
 Oc8:List V3
 (Se8 y5 y6 y7:Int)
structure q9 where
 ph:Nat
 qb5:Int
 ns7:Nat
 (eh0 eh1:List (List b7))
 (Aa3 Aa4 Aa5:Int)
noncomputable def Db0(p:G3)(s:q9):St:=⟨.unk::eL tV p.W8::.fn 34 []::ra 4 (.v (.slice none 0 0)::.ptr 0 0 0 0::.unk::.ptr 1 0 0 0::ra 4 (eL tV p.za5::i p.xa5::i p.v8::ra 3 (eL tV p.Oc8::i p.Se8::i s.qb5::ra 20 []))),[⟨153,0,[],true,false,0⟩,⟨0,3,[[i p.y5,i p.y6,i p.y7]],true,false,0⟩]⟩
noncomputable def Db1(p:G3)(s:q9):St:=⟨.unk::eL tV p.W8::.fn 34 []::ra 4 (.sl 0 0 s.ns7 0::.ptr 1 0 0 0::.unk::.ptr 2 0 0 0::ra 4 (eL tV p.za5::i p.xa5::i p.v8::ra 3 (eL tV p.Oc8::i p.Se8::i s.qb5::ra 20 []))),[⟨27,3,s.eh0,true,false,0⟩,⟨153,0,s.eh1,true,false,0⟩,⟨0,3,[[i s.Aa3,i s.Aa4,i s.Aa5]],true,false,0⟩]⟩
noncomputable def Oc3(p:G3)(s:q9):St:=(sel (Nat.beq s.ph 1) (Db1 p s) (Db0 p s))
noncomputable def Q5{α:Type}(k:q9->α)(e:Nat->α)(z:α)(p:G3)(s:q9):α:=let t1:=(g9 (⟨p.y5,p.y6,p.y7⟩:V3) (gL tV p.Oc8 s.qb5.toNat));(sl (decide (s.qb5<p.Se8)) (sl (inB s.qb5 (List.length p.Oc8)) (sl (!(La5 3 [(0,.int .i64),(1,.int .i64),(2,.int .i64)] [i t1.x,i t1.y,i t1.z] [])) (k ⟨1,W (s.qb5+1),1,[[i t1.x,i t1.y,i t1.z]],aa3 [(0,.int .i64),(1,.int .i64),(2,.int .i64)] [i t1.x,i t1.y,i t1.z] [i t1.x,i t1.y,i t1.z,b true] [],p.y5,p.y6,p.y7⟩) (k ⟨0,W (s.qb5+1),0,[],[],0,0,0⟩)) z) (e 1))
noncomputable def Q6{α:Type}(k:q9->α)(e:Nat->α)(z:α)(p:G3)(s:q9):α:=let t1:=(g9 (⟨s.Aa3,s.Aa4,s.Aa5⟩:V3) (gL tV p.Oc8 s.qb5.toNat));(sl (decide (s.qb5<p.Se8)) (sl (inB s.qb5 (List.length p.Oc8)) (sl (!(La5 3 [(0,.int .i64),(1,.int .i64),(2,.int .i64)] [i t1.x,i t1.y,i t1.z] s.eh1)) (sl (Nat.beq s.ns7 (len s.eh0)&&Nat.ble ((s.ns7+1)*24) room) (k ⟨1,W (s.qb5+1),s.ns7+1,app s.eh0 [[i t1.x,i t1.y,i t1.z]],aa3 [(0,.int .i64),(1,.int .i64),(2,.int .i64)] [i t1.x,i t1.y,i t1.z] [i t1.x,i t1.y,i t1.z,b true] s.eh1,s.Aa3,s.Aa4,s.Aa5⟩) z) (k ⟨1,W (s.qb5+1),s.ns7,s.eh0,s.eh1,s.Aa3,s.Aa4,s.Aa5⟩)) z) (e 2))
noncomputable def O5(p:G3)(s:q9):Stp q9:=(sel (Nat.beq s.ph 1) (Q6 .next .exit .fail p s) (Q5 .next .exit .fail p s))
noncomputable def mb1:Lo G3 q9:=⟨En qb2,0,eg3,[1,1,1,0,1,4,4,1,1,0,4,1,1,4,4],[1,2,7,8,10,15,16,17,21,22,23],.p,[⟨sUq::sLq tV::.s (.o (.fn 34))::ru2 4 (.s (.o .nil)::sPq 0::sUq::sPq 1::ru2 4 (sLq tV::sIq::sIq::ru2 3 (sLq tV::sIq::sIq::ru2 20 []))),[⟨153,0,true,some []⟩,⟨0,3,true,some [kLq 3]⟩],λa H=>(⟨aLq tV a 1,aLq tV a 15,aIq a 16,aIq a 17,aLq tV a 21,aIq a 22,hIq H 1 0 0,hIq H 1 0 1,hIq H 1 0 2⟩,⟨0,aIq a 23,0,[],[],0,0,0⟩)⟩,⟨sUq::sLq tV::.s (.o (.fn 34))::ru2 4 (.s (.o (.sl 0 0 (some 0) none))::sPq 1::sUq::sPq 2::ru2 4 (sLq tV::sIq::sIq::ru2 3 (sLq tV::sIq::sIq::ru2 20 []))),[⟨27,3,true,none⟩,⟨153,0,true,none⟩,⟨0,3,true,some [kLq 3]⟩],λa H=>(⟨aLq tV a 1,aLq tV a 15,aIq a 16,aIq a 17,aLq tV a 21,aIq a 22,0,0,0⟩,⟨1,aIq a 23,slN (slT a 7),elT H 0,elT H 1,hIq H 2 0 0,hIq H 2 0 1,hIq H 2 0 2⟩)⟩],O5,[(some 2,λp s=>upq (Db0 p s) [(24,b (decide (s.qb5<p.Se8)))]),(some 2,λp s=>upq (Db1 p s) [(24,b (decide (s.qb5<p.Se8)))])],Oc3⟩
theorem Oc4:mb1.OkM:=Lo.okM [] (by kernel_rfl) .nil rfl (.cons (λa H=>by kernel_rfl) (.cons (λa H=>by kernel_rfl) .nil)) λp s=>(.sel (Nat.beq s.ph 1) (.of @Q6 (λF _ _ _ _ _=>by unfold Q6;(repeat' apply j6 (f:=F))<;>rfl) (by kernel_rfl)) (.of @Q5 (λF _ _ _ _ _=>by unfold Q5;(repeat' apply j6 (f:=F))<;>rfl) (by kernel_rfl)))
structure R5 where
 xa5:Int
structure w9 where
 ph:Nat
 (W8 za5:List V3)
 v8:Int
 ns7:Nat
 (eh0 eh1:List (List b7))
noncomputable def Db2(p:R5)(s:w9):St:=⟨.unk::eL tV s.W8::.fn 34 []::ra 4 (.v (.slice none 0 0)::.ptr 0 0 0 0::ra 6 (eL tV s.za5::i p.xa5::i s.v8::ra 26 [])),[⟨153,0,[],true,false,0⟩]⟩
noncomputable def Db3(p:R5)(s:w9):St:=⟨.unk::eL tV s.W8::.fn 34 []::ra 4 (.sl 0 0 s.ns7 0::.ptr 1 0 0 0::ra 6 (eL tV s.za5::i p.xa5::i s.v8::ra 26 [])),[⟨27,3,s.eh0,true,false,0⟩,⟨153,0,s.eh1,true,false,0⟩]⟩
noncomputable def Oc5(p:R5)(s:w9):St:=(sel (Nat.beq s.ph 1) (Db3 p s) (Db2 p s))
noncomputable def Q7{α:Type}(k:w9->α)(e:Nat->α)(z:α)(p:R5)(s:w9):α:=let t1:=(lp (O5 (⟨rt tV s.W8,rt tV s.za5,p.xa5,s.v8,rt tV s.W8,(↑(List.length s.W8):Int),(gL tV s.za5 s.v8.toNat).x,(gL tV s.za5 s.v8.toNat).y,(gL tV s.za5 s.v8.toNat).z⟩:G3)) (⟨0,0,0,[],[],0,0,0⟩:q9));(sl (decide (s.v8<p.xa5)) (sl (inB s.v8 (List.length s.za5)) (sl ((cnE tV s.W8)&&((cnE tV s.za5)&&((cnE tV s.W8)&&true))) (sl (Nat.beq t1.1 1) (k ⟨0,rt tV s.W8,rt tV s.za5,W (s.v8+1),0,[],[]⟩) (sl (Nat.beq t1.1 2) (k ⟨1,rt tV s.W8,rt tV s.za5,W (s.v8+1),t1.2.ns7,t1.2.eh0,t1.2.eh1⟩) z)) z) z) (e 1))
noncomputable def Q8{α:Type}(k:w9->α)(e:Nat->α)(z:α)(p:R5)(s:w9):α:=let t1:=(lp (O5 (⟨rt tV s.W8,rt tV s.za5,p.xa5,s.v8,rt tV s.W8,(↑(List.length s.W8):Int),0,0,0⟩:G3)) (⟨1,0,s.ns7,s.eh0,s.eh1,(gL tV s.za5 s.v8.toNat).x,(gL tV s.za5 s.v8.toNat).y,(gL tV s.za5 s.v8.toNat).z⟩:q9));(sl (decide (s.v8<p.xa5)) (sl (inB s.v8 (List.length s.za5)) (sl ((cnE tV s.W8)&&((cnE tV s.za5)&&((cnE tV s.W8)&&true))) (sl (Nat.beq t1.1 1) (k ⟨0,rt tV s.W8,rt tV s.za5,W (s.v8+1),0,[],[]⟩) (sl (Nat.beq t1.1 2) (k ⟨1,rt tV s.W8,rt tV s.za5,W (s.v8+1),t1.2.ns7,t1.2.eh0,t1.2.eh1⟩) z)) z) z) (e 2))
noncomputable def ra7(p:R5)(s:w9):Stp w9:=(sel (Nat.beq s.ph 1) (Q8 .next .exit .fail p s) (Q7 .next .exit .fail p s))
noncomputable def mb2:Lo R5 w9:=⟨En qb2,0,eg3,[1,1,1,0,1,4,4],[1,2,7,8,15,16,17],.s .p (.s .p (.s (.b (.s .p (.s .p (.b (.u mb1.lsM))))) .p)),[⟨sUq::sLq tV::.s (.o (.fn 34))::ru2 4 (.s (.o .nil)::sPq 0::ru2 6 (sLq tV::sIq::sIq::ru2 26 [])),[⟨153,0,true,some []⟩],λa H=>(⟨aIq a 16⟩,⟨0,aLq tV a 1,aLq tV a 15,aIq a 17,0,[],[]⟩)⟩,⟨sUq::sLq tV::.s (.o (.fn 34))::ru2 4 (.s (.o (.sl 0 0 (some 0) none))::sPq 1::ru2 6 (sLq tV::sIq::sIq::ru2 26 [])),[⟨27,3,true,none⟩,⟨153,0,true,none⟩],λa H=>(⟨aIq a 16⟩,⟨1,aLq tV a 1,aLq tV a 15,aIq a 17,slN (slT a 7),elT H 0,elT H 1⟩)⟩],ra7,[(some 0,λp s=>upq (Db2 p s) [(18,b (decide (s.v8<p.xa5)))]),(some 0,λp s=>upq (Db3 p s) [(18,b (decide (s.v8<p.xa5)))])],Oc5⟩
theorem Oc6:mb2.OkM:=Lo.okM [mb1.prM] (by kernel_rfl) (.cons Oc4 .nil) rfl (.cons (λa H=>by kernel_rfl) (.cons (λa H=>by kernel_rfl) .nil)) λp s=>(.sel (Nat.beq s.ph 1) (.of @Q8 (λF _ _ _ _ _=>by unfold Q8;(repeat' apply j6 (f:=F))<;>rfl) (by kernel_rfl)) (.of @Q7 (λF _ _ _ _ _=>by unfold Q7;(repeat' apply j6 (f:=F))<;>rfl) (by kernel_rfl)))
structure cb4 where
 (alt ns0:Nat)
 eh0:List (List b7)
noncomputable def ua4{α:Type}(kk:cb4->α)(x:cb3):α:=let t1:=(lp (ra7 (⟨(↑(List.length x.f7):Int)⟩:R5)) (⟨0,rt tV x.W8,rt tV x.f7,0,0,[],[]⟩:w9));(sl ((cnE tV x.W8)&&((cnE tV x.f7)&&true)) (sl (Nat.beq t1.1 1) (kk ⟨1,0,[]⟩) (sl (Nat.beq t1.1 2) (kk ⟨2,t1.2.ns7,t1.2.eh0⟩) (kk ⟨0,0,[]⟩))) (kk ⟨0,0,[]⟩))
noncomputable def Cb4(x:cb3):cb4:=ua4 (λr=>r) x
noncomputable def qb3(x:cb3)(r:cb4):DT (b7×List b8):=(.ite (Nat.beq r.alt 1) (.ret (.v (.slice none 0 0),[])) (.ite (Nat.beq r.alt 2) (.ret (.sl 0 0 r.ns0 0,[⟨27,3,r.eh0,true,false,0⟩])) .fail))
theorem ud3{α β:Type}(F:α->β)(kk:cb4->α)(x:cb3):F (ua4 kk x)=ua4 (λr=>F (kk r)) x:=by unfold ua4;(repeat' apply j6 (f:=F))<;>rfl
noncomputable def pc2:Sum:=Ka5 ⟨[sLq tV,sLq tV,.s (.o (.fn 34))],[],λa H=>(⟨aLq tV a 0,aLq tV a 1⟩,())⟩ (λx=>qb3 x (Cb4 x))
theorem jd8:i5 prog G 79 pc2:=B1 (enc:=λx=>⟨[eL tV x.f7,eL tV x.W8,.fn 34 []],[]⟩) (λa H=>by kernel_rfl) (bd b79 Zc5) λx=>Cd6 (.s .p (.s .p (.s .p (.s (.s .p (.b (.u mb2.lsM))) .p)))) [mb2.prM] (by kernel_rfl) (.cons Oc6 .nil) (Eq.trans (b:=ua4 (λr=>(qb3 x r).run) x) (by kernel_rfl) (ud3 (λr=>(qb3 x r).run) (λr=>r) x).symm)
noncomputable def Se0:List (Nat×Sum):=[(79,pc2),(35,pc1)]
theorem Ge2:i7 prog G Se0:=⟨jd8,jd7,trivial⟩
noncomputable def fc7(x:List V3)(y:List V3):Option (b7×List b8):=let t1:=(Cb4 ⟨rt tV x,rt tV y⟩);let t2:=(bb8 ());let t3:=(cb1 (slR tV t1.eh0 0 t1.ns0));(sl (decide ((if (↑(List.length y):Int)>(↑(List.length x):Int) then (↑(List.length y):Int) else (↑(List.length x):Int))>48)) (some (.tup [.v (.slice none 0 0),i 2],[])) (sl ((cnE tV x)&&((cnE tV y)&&true)) (sl (Nat.beq t1.alt 1) (sl (bb9 ()) (some (.tup [eL tV t2.1,i t2.2],[])) none) (sl (Nat.beq t1.alt 2) (sl (okS tV t1.eh0 0 t1.ns0) (sl (cb2 (slR tV t1.eh0 0 t1.ns0)) (some (.tup [eL tV t3.1,i t3.2],[])) none) none) none)) none))
noncomputable def Hb7(x:List V3)(y:List V3):List V3×Int:=E9 (two (r1L tV) r1I) (fc7 x y)
noncomputable def Hb8(x:List V3)(y:List V3):Bool:=okO (two (r1L tV) r1I) (fc7 x y)
noncomputable def de4:Sum:=ma5 (ea7 tV) (ea7 tV) (λx y=>.guard (Hb8 x y) (.ret ((two (r1L tV) r1I).enc (Hb7 x y),[])))
theorem Se1:i5 prog G 28 de4:=nb8 (bd b28 Ge2) (two (r1L tV) r1I) (o:=fc7) λx y=>o5 (by kernel_rfl)
noncomputable def yc5:List (Nat×Sum):=[(83,Ca5)]
theorem ud4:i7 prog G yc5:=⟨Da2,trivial⟩
structure Ia2 where
 (f7 ld1:List V3)
 (ha9 c8 b9 c9:Int)
structure ba2 where
 (is6 re1:Int)
noncomputable def fc8(p:Ia2)(s:ba2):St:=⟨eL tV p.f7::.unk::.unk::.ptr 0 0 0 0::.unk::.unk::i s.is6::ra 3 (eL tV p.ld1::i p.ha9::i s.re1::ra 20 []),[⟨0,3,[[i p.c8,i p.b9,i p.c9]],true,false,0⟩]⟩
noncomputable def xa1{α:Type}(k:ba2->α)(e:Nat->α)(z:α)(p:Ia2)(s:ba2):α:=let t1:=(j7 (gL tV p.ld1 s.re1.toNat) (⟨p.c8,p.b9,p.c9⟩:V3));(sl (decide (s.re1<p.ha9)) (sl (inB s.re1 (List.length p.ld1)) (sl (s.re1==0) (k ⟨t1,W (s.re1+1)⟩) (sl (decide (t1>s.is6)) (k ⟨t1,W (s.re1+1)⟩) (k ⟨s.is6,W (s.re1+1)⟩))) z) (e 1))
noncomputable def qa0(p:Ia2)(s:ba2):Stp ba2:=xa1 .next .exit .fail p s
noncomputable def Cb5:Lo Ia2 ba2:=⟨En yc5,0,og2,[1,1,0,1,4,4],[0,3,6,10,11,12],.p,[⟨sLq tV::sUq::sUq::sPq 0::sUq::sUq::sIq::ru2 3 (sLq tV::sIq::sIq::ru2 20 []),[⟨0,3,true,some [kLq 3]⟩],λa H=>(⟨aLq tV a 0,aLq tV a 10,aIq a 11,hIq H 0 0 0,hIq H 0 0 1,hIq H 0 0 2⟩,⟨aIq a 6,aIq a 12⟩)⟩],qa0,[(some 0,λp s=>upq (fc8 p s) [(13,b (decide (s.re1<p.ha9)))])],fc8⟩
theorem jd9:Cb5.Ok:=Lo.ok [] (by kernel_rfl) .nil rfl (.cons (λa H=>by kernel_rfl) .nil) λp s=>(.of @xa1 (λF _ _ _ _ _=>by unfold xa1;(repeat' apply j6 (f:=F))<;>rfl) (by kernel_rfl))
noncomputable def Za4(x:List V3)(y:V3):Option (b7×List b8):=let t1:=(lp (qa0 (⟨rt tV x,rt tV x,(↑(List.length x):Int),y.x,y.y,y.z⟩:Ia2)) (⟨0,0⟩:ba2));(sl ((cnE tV x)&&((cnE tV x)&&true)) (sl (Nat.beq t1.1 1) (some (.tup [i t1.2.is6,b (decide ((↑(List.length (rt tV x)):Int)>0))],[])) none) none)
noncomputable def Za5(x:List V3)(y:V3):Int×Bool:=E9 (two r1I r1B) (Za4 x y)
noncomputable def Za6(x:List V3)(y:V3):Bool:=okO (two r1I r1B) (Za4 x y)
noncomputable def Jc4:Sum:=ma5 (ea7 tV) (I8 tV) (λx y=>.guard (Za6 x y) (.ret ((two r1I r1B).enc (Za5 x y),[])))
theorem Nd5:i5 prog G 31 Jc4:=nb8 (bd b31 ud4) (two r1I r1B) (o:=Za4) λx y=>za7 (.s .p (.s .p (.s (.s .p (.b (.u Cb5.ls))) .p))) [Cb5.pr] (by kernel_rfl) (.cons jd9 .nil) (by kernel_rfl)
structure Zc6 where
 (K9 L0 L1 mb8 c8 b9 c9:Int)
structure Zc7 where
 alt:Nat
 bs0:Bool
noncomputable def Zc8{α:Type}(kk:Zc7->α)(x:Zc6):α:=let t1:=(wa0 (⟨(⟨x.K9,x.L0,x.L1⟩:V3),x.mb8⟩:Pln) (⟨x.c8,x.b9,x.c9⟩:V3));(sl (wa1 (⟨(⟨x.K9,x.L0,x.L1⟩:V3),x.mb8⟩:Pln) (⟨x.c8,x.b9,x.c9⟩:V3)) (kk ⟨1,decide (t1>0)⟩) (kk ⟨0,false⟩))
noncomputable def lc9(x:Zc6):Zc7:=Zc8 (λr=>r) x
structure Va5 where
 d9:List Pln
 (c8 b9 c9:Int)
structure oa6 where
 d9:List Pln
 (is7 c8 b9 c9:Int)
structure A0 where
 is8:Int
noncomputable def ha8{α:Type}(k:A0->α)(e:Nat->α)(z:α)(p:oa6)(s:A0):α:=let t1:=(lc9 ⟨(gL tP p.d9 s.is8.toNat).n.x,(gL tP p.d9 s.is8.toNat).n.y,(gL tP p.d9 s.is8.toNat).n.z,(gL tP p.d9 s.is8.toNat).b,p.c8,p.b9,p.c9⟩);(sl (decide (s.is8<p.is7)) (sl (inB s.is8 (List.length p.d9)) (sl (Nat.beq t1.alt 1) (sl t1.bs0 (e 1) (k ⟨W (s.is8+1)⟩)) z) z) (e 2))
noncomputable def U8(p:oa6)(s:A0):Stp A0:=ha8 .next .exit .fail p s
structure Va6 where
 alt:Nat
 is0:Int
noncomputable def Va7{α:Type}(kk:Va6->α)(x:Va5):α:=let t1:=(lp (U8 (⟨rt tP x.d9,(↑(List.length x.d9):Int),x.c8,x.b9,x.c9⟩:oa6)) (⟨0⟩:A0));(sl ((cnE tP x.d9)&&true) (sl (Nat.beq t1.1 1) (kk ⟨1,t1.2.is8⟩) (sl (Nat.beq t1.1 2) (kk ⟨1,-1⟩) (kk ⟨0,0⟩))) (kk ⟨0,0⟩))
noncomputable def ta4(x:Va5):Va6:=Va7 (λr=>r) x
structure Ia3 where
 d9:List Pln
 (c8 b9 c9:Int)
structure Ia4 where
 alt:Nat
 bs0:Bool
noncomputable def Ia5{α:Type}(kk:Ia4->α)(x:Ia3):α:=let t1:=(ta4 ⟨rt tP x.d9,x.c8,x.b9,x.c9⟩);(sl ((cnE tP x.d9)&&true) (sl (Nat.beq t1.alt 1) (kk ⟨1,decide (t1.is0>=0)⟩) (kk ⟨0,false⟩)) (kk ⟨0,false⟩))
noncomputable def ma0(x:Ia3):Ia4:=Ia5 (λr=>r) x
noncomputable def mc0(x:List V3)(y:V3):Option (b7×List b8):=let t1:=(Zb9 (rt tV x));let t2:=(ya1 y);let t3:=(ma0 ⟨rt tP t1.1,y.x,y.y,y.z⟩);(sl (okE tV x) (sl (Jc3 (rt tV x)) (sl (t1.2==0) (sl (ya2 y) (sl t2 (sl ((cnE tP t1.1)&&true) (sl (Nat.beq t3.alt 1) (some (b (!t3.bs0),[])) none) none) (some (b false,[]))) none) (some (b false,[]))) none) none)
noncomputable def mc1(x:List V3)(y:V3):Bool:=E9 (one r1B) (mc0 x y)
noncomputable def mc2(x:List V3)(y:V3):Bool:=okO (one r1B) (mc0 x y)
structure Cf4 where
 d9:List Pln
 (is2 c8 b9 c9:Int)
structure Cf5 where
 ph:Nat
 is9:Int
 ns8:Nat
 eh1:List (List b7)
structure Hf2 where
 f7:List V3
 (c8 b9 c9:Int)
structure Hf3 where
 is5:Int
structure ag0 where
 f7:List V3
 (c8 b9 c9:Int)
structure ag1 where
 is5:Int
structure Cf6 where
 d9:List Pln
 (c8 b9 c9:Int)
structure Cf7 where
 ph:Nat
 is6:Int
 ns5:Nat
 eh1:List (List b7)
structure Cf8 where
 ns5:Nat
 (is7 is8:Int)
 eh0:List (List b7)
structure Cf9 where
 ph:Nat
 is9:Int
structure Df0 where
 is7:Int
structure Df1 where
 (ph ns5:Nat)
 is8:Int
 eh0:List (List b7)
structure Df2 where
structure Df3 where
 ph:Nat
 is7:Int
 ns5:Nat
 eh0:List (List b7)
structure lf0 where
 f7:List V3
 ag8:List Pln
structure lf1 where
 ph:Nat
 is7:Int
 Lg9:List V3
structure ag2 where
 (f7 W8:List V3)
 is7:Int
structure ag3 where
 ph:Nat
 is8:Int
 ns6:Nat
 eh0:List (List b7)
structure ag4 where
structure ag5 where
 ph:Nat
 (f7 W8:List V3)
 is7:Int
 ns6:Nat
 eh0:List (List b7)
structure lf2 where
 f7:List V3
 (c8 b9 c9:Int)
structure lf3 where
 (is6 is7:Int)
noncomputable def pc3:List (Nat×Sum):=[]
theorem kd0:i7 prog G pc3:=trivial
structure Ca2 where
 (f7 W8:List V3)
structure P6 where
 is5:Int
noncomputable def Vb0(p:Ca2)(s:P6):St:=⟨eL tV p.f7::eL tV p.W8::ra 3 (i s.is5::ra 20 []),[]⟩
noncomputable def ra8{α:Type}(k:P6->α)(e:Nat->α)(z:α)(p:Ca2)(s:P6):α:=(sl (decide (s.is5<(↑(List.length p.f7):Int))) (sl (inB s.is5 (List.length p.f7)) (sl (inB s.is5 (List.length p.W8)) (sl (!(((gL tV p.f7 s.is5.toNat).x==(gL tV p.W8 s.is5.toNat).x)&&(((gL tV p.f7 s.is5.toNat).y==(gL tV p.W8 s.is5.toNat).y)&&(((gL tV p.f7 s.is5.toNat).z==(gL tV p.W8 s.is5.toNat).z)&&true)))) (e 1) (k ⟨W (s.is5+1)⟩)) z) z) (e 2))
noncomputable def xa2(p:Ca2)(s:P6):Stp P6:=ra8 .next .exit .fail p s
noncomputable def qb4:Lo Ca2 P6:=⟨En pc3,0,og1,[1,1,0,1,4,4],[0,1,5],.p,[⟨sLq tV::sLq tV::ru2 3 (sIq::ru2 20 []),[],λa H=>(⟨aLq tV a 0,aLq tV a 1⟩,⟨aIq a 5⟩)⟩],xa2,[(none,λp s=>⟨[b false],[]⟩),(some 0,λp s=>upq (Vb0 p s) [(11,i s.is5),(12,eL tV p.f7),(13,i (↑(List.length p.f7):Int)),(14,b (decide (s.is5<(↑(List.length p.f7):Int))))])],Vb0⟩
theorem Zc9:qb4.Ok:=Lo.ok [] (by kernel_rfl) .nil rfl (.cons (λa H=>by kernel_rfl) .nil) λp s=>(.of @ra8 (λF _ _ _ _ _=>by unfold ra8;(repeat' apply j6 (f:=F))<;>rfl) (by kernel_rfl))
noncomputable def Ra3(x:List V3)(y:List V3):Option (b7×List b8):=let t1:=(lp (xa2 (⟨rt tV x,rt tV y⟩:Ca2)) (⟨0⟩:P6));(sl ((↑(List.length x):Int) != (↑(List.length y):Int)) (some (b false,[])) (sl ((cnE tV x)&&((cnE tV y)&&true)) (sl (Nat.beq t1.1 1) (some (b false,[])) (sl (Nat.beq t1.1 2) (some (b true,[])) none)) none))
noncomputable def Ra4(x:List V3)(y:List V3):Bool:=E9 (one r1B) (Ra3 x y)
noncomputable def Ra5(x:List V3)(y:List V3):Bool:=okO (one r1B) (Ra3 x y)
noncomputable def yc6:Sum:=ma5 (ea7 tV) (ea7 tV) (λx y=>.guard (Ra5 x y) (.ret ((one r1B).enc (Ra4 x y),[])))
theorem ud5:i5 prog G 30 yc6:=nb8 (bd b30 kd0) (one r1B) (o:=Ra3) λx y=>za7 (.s .p (.s .p (.s (.s .p (.b (.u qb4.ls))) .p))) [qb4.pr] (by kernel_rfl) (.cons Zc9 .nil) (by kernel_rfl)
structure Hf4 where
 f7:List V3
 (c8 b9 c9:Int)
structure Hf5 where
 ph:Nat
 is6:Int
 ns5:Nat
 eh1:List (List b7)
noncomputable def yc7:List (Nat×Sum):=[]
theorem ud6:i7 prog G yc7:=trivial
structure ba3 where
 (c8 b9 c9:Int)
structure y9 where
 ph:Nat
 is4:Int
 ns3:Nat
 eh1:List (List b7)
noncomputable def Vb1(p:ba3)(s:y9):St:=⟨.unk::.ptr 0 0 0 0::.unk::.v (.slice none 0 0)::i s.is4::ra 33 [],[⟨0,3,[[i p.c8,i p.b9,i p.c9]],true,false,0⟩]⟩
noncomputable def Vb2(p:ba3)(s:y9):St:=⟨.unk::.ptr 0 0 0 0::.unk::.sl 1 0 s.ns3 0::i s.is4::ra 33 [],[⟨0,3,[[i p.c8,i p.b9,i p.c9]],true,false,0⟩,⟨27,3,s.eh1,true,false,0⟩]⟩
noncomputable def kd1(p:ba3)(s:y9):St:=(sel (Nat.beq s.ph 1) (Vb2 p s) (Vb1 p s))
noncomputable def ka1{α:Type}(k:y9->α)(e:Nat->α)(z:α)(p:ba3)(s:y9):α:=(sl (decide (s.is4<8)) (sl (decide ((Int.tmod s.is4 2)>0)) (sl (decide ((Int.tmod (W (Int.tdiv s.is4 2)) 2)>0)) (sl (decide ((W (Int.tdiv s.is4 4))>0)) (k ⟨1,W (s.is4+1),1,[[i (W (0-p.c8)),i (W (0-p.b9)),i (W (0-p.c9))]]⟩) (k ⟨1,W (s.is4+1),1,[[i (W (0-p.c8)),i (W (0-p.b9)),i p.c9]]⟩)) (sl (decide ((W (Int.tdiv s.is4 4))>0)) (k ⟨1,W (s.is4+1),1,[[i (W (0-p.c8)),i p.b9,i (W (0-p.c9))]]⟩) (k ⟨1,W (s.is4+1),1,[[i (W (0-p.c8)),i p.b9,i p.c9]]⟩))) (sl (decide ((Int.tmod (W (Int.tdiv s.is4 2)) 2)>0)) (sl (decide ((W (Int.tdiv s.is4 4))>0)) (k ⟨1,W (s.is4+1),1,[[i p.c8,i (W (0-p.b9)),i (W (0-p.c9))]]⟩) (k ⟨1,W (s.is4+1),1,[[i p.c8,i (W (0-p.b9)),i p.c9]]⟩)) (sl (decide ((W (Int.tdiv s.is4 4))>0)) (k ⟨1,W (s.is4+1),1,[[i p.c8,i p.b9,i (W (0-p.c9))]]⟩) (k ⟨1,W (s.is4+1),1,[[i p.c8,i p.b9,i p.c9]]⟩)))) (e 1))
noncomputable def ka2{α:Type}(k:y9->α)(e:Nat->α)(z:α)(p:ba3)(s:y9):α:=(sl (decide (s.is4<8)) (sl (decide ((Int.tmod s.is4 2)>0)) (sl (decide ((Int.tmod (W (Int.tdiv s.is4 2)) 2)>0)) (sl (decide ((W (Int.tdiv s.is4 4))>0)) (sl (Nat.beq s.ns3 (len s.eh1)&&Nat.ble ((s.ns3+1)*24) room) (k ⟨1,W (s.is4+1),s.ns3+1,app s.eh1 [[i (W (0-p.c8)),i (W (0-p.b9)),i (W (0-p.c9))]]⟩) z) (sl (Nat.beq s.ns3 (len s.eh1)&&Nat.ble ((s.ns3+1)*24) room) (k ⟨1,W (s.is4+1),s.ns3+1,app s.eh1 [[i (W (0-p.c8)),i (W (0-p.b9)),i p.c9]]⟩) z)) (sl (decide ((W (Int.tdiv s.is4 4))>0)) (sl (Nat.beq s.ns3 (len s.eh1)&&Nat.ble ((s.ns3+1)*24) room) (k ⟨1,W (s.is4+1),s.ns3+1,app s.eh1 [[i (W (0-p.c8)),i p.b9,i (W (0-p.c9))]]⟩) z) (sl (Nat.beq s.ns3 (len s.eh1)&&Nat.ble ((s.ns3+1)*24) room) (k ⟨1,W (s.is4+1),s.ns3+1,app s.eh1 [[i (W (0-p.c8)),i p.b9,i p.c9]]⟩) z))) (sl (decide ((Int.tmod (W (Int.tdiv s.is4 2)) 2)>0)) (sl (decide ((W (Int.tdiv s.is4 4))>0)) (sl (Nat.beq s.ns3 (len s.eh1)&&Nat.ble ((s.ns3+1)*24) room) (k ⟨1,W (s.is4+1),s.ns3+1,app s.eh1 [[i p.c8,i (W (0-p.b9)),i (W (0-p.c9))]]⟩) z) (sl (Nat.beq s.ns3 (len s.eh1)&&Nat.ble ((s.ns3+1)*24) room) (k ⟨1,W (s.is4+1),s.ns3+1,app s.eh1 [[i p.c8,i (W (0-p.b9)),i p.c9]]⟩) z)) (sl (decide ((W (Int.tdiv s.is4 4))>0)) (sl (Nat.beq s.ns3 (len s.eh1)&&Nat.ble ((s.ns3+1)*24) room) (k ⟨1,W (s.is4+1),s.ns3+1,app s.eh1 [[i p.c8,i p.b9,i (W (0-p.c9))]]⟩) z) (sl (Nat.beq s.ns3 (len s.eh1)&&Nat.ble ((s.ns3+1)*24) room) (k ⟨1,W (s.is4+1),s.ns3+1,app s.eh1 [[i p.c8,i p.b9,i p.c9]]⟩) z)))) (e 2))
noncomputable def Ta8(p:ba3)(s:y9):Stp y9:=(sel (Nat.beq s.ph 1) (ka2 .next .exit .fail p s) (ka1 .next .exit .fail p s))
noncomputable def Cb6:Lo ba3 y9:=⟨En yc7,0,og3,[1,1,0,1,4,4],[1,3,4],.p,[⟨sUq::sPq 0::sUq::.s (.o .nil)::sIq::ru2 33 [],[⟨0,3,true,some [kLq 3]⟩],λa H=>(⟨hIq H 0 0 0,hIq H 0 0 1,hIq H 0 0 2⟩,⟨0,aIq a 4,0,[]⟩)⟩,⟨sUq::sPq 0::sUq::.s (.o (.sl 1 0 (some 0) none))::sIq::ru2 33 [],[⟨0,3,true,some [kLq 3]⟩,⟨27,3,true,none⟩],λa H=>(⟨hIq H 0 0 0,hIq H 0 0 1,hIq H 0 0 2⟩,⟨1,aIq a 4,slN (slT a 3),elT H 1⟩)⟩],Ta8,[(some 0,λp s=>upq (Vb1 p s) [(6,i s.is4),(7,b (decide (s.is4<8)))]),(some 0,λp s=>upq (Vb2 p s) [(6,i s.is4),(7,b (decide (s.is4<8)))])],kd1⟩
theorem kd2:Cb6.Ok:=Lo.ok [] (by kernel_rfl) .nil rfl (.cons (λa H=>by kernel_rfl) (.cons (λa H=>by kernel_rfl) .nil)) λp s=>(.sel (Nat.beq s.ph 1) (.of @ka2 (λF _ _ _ _ _=>by unfold ka2;(repeat' apply j6 (f:=F))<;>rfl) (by kernel_rfl)) (.of @ka1 (λF _ _ _ _ _=>by unfold ka1;(repeat' apply j6 (f:=F))<;>rfl) (by kernel_rfl)))
noncomputable def Za7(x:V3):Option (b7×List b8):=let t1:=(lp (Ta8 (⟨x.x,x.y,x.z⟩:ba3)) (⟨0,0,0,[]⟩:y9));(sl (Nat.beq t1.1 1) (some (.v (.slice none 0 0),[])) (sl (Nat.beq t1.1 2) (some (.sl 0 0 t1.2.ns3 0,[⟨27,3,t1.2.eh1,true,false,0⟩])) none))
noncomputable def tb4(x:V3):List V3:=E9 (one (r1L tV)) (Za7 x)
noncomputable def Za8(x:V3):Bool:=okO (one (r1L tV)) (Za7 x)
noncomputable def Jc5:Sum:=O9 (I8 tV) (λx=>.guard (Za8 x) (.ret ((one (r1L tV)).enc (tb4 x),[])))
theorem Nd6:i5 prog G 65 Jc5:=ua7 (bd b65 ud6) (one (r1L tV)) (o:=Za7) λx=>za7 (.s .p (.s .p (.s (.s .p (.b (.u Cb6.ls))) .p))) [Cb6.pr] (by kernel_rfl) (.cons kd2 .nil) (by kernel_rfl)
end Go.Ev.Ce
namespace Go.Ev
open Go Go.ChangeShapes Go.RowKit
structure Nd7(w w':World):Prop where
 os:w'.os=w.os
 output:w'.output=w.output
 size:w.heap.size<=w'.heap.size
 block:∀k,k<w.heap.size->w'.heap[k]?=w.heap[k]?
theorem Nd7.kept{w w':World}(h:Nd7 w w')(may:MemPlace->Prop):w.keptBut w' may:=by
 refine⟨h.os,h.output,λi hi=>?_⟩
 rw[h.block i hi];cases w.heap[i]? with
 |none=>rfl
 |some o=>cases o<;>first | exact⟨rfl,rfl,rfl,λ_ _=>rfl⟩ | exact .inr ⟨rfl,rfl⟩ | rfl
theorem Nd7.frozen{w w':World}(h:Nd7 w w')(b off:Nat)(hb:b<w.heap.size):w'.frozen? ⟨b,off,none⟩=w.frozen? ⟨b,off,none⟩:=by
 simp only[World.frozen?,h.block b hb]
theorem Nd7.cell{w w':World}(h:Nd7 w w')(b off:Nat)(hb:b<w.heap.size):w'.cell? ⟨b,off,none⟩=w.cell? ⟨b,off,none⟩:=by
 simp only[World.cell?,h.block b hb]
theorem Nd7.same{w w':World}(h:Nd7 w w')(p:MemPlace)(hp:p.block<w.heap.size):w.sameAt w' p:=by
 cases p with
 |cell b off=>exact h.cell b off hp
 |map b=>exact h.block b hp
theorem yc8{α β:Type}{f:α->Option β}:∀{l:List α} {r:List β},l.mapM f=some r->r.length=l.length/\∀(j:Nat) y,r[j]?=some y->∃x,l[j]?=some x/\f x=some y
 |[],r,h=>by
  have:r=[]:=by simpa using h.symm
  subst this;simp
 |x::l,r,h=>by
  rw[List.mapM_cons] at h;obtain⟨y,h1,h2⟩:=Qln.1 h;obtain⟨r',h3,h4⟩:=Qln.1 h2
  have:r=y::r':=by simpa using h4.symm
  subst this;obtain⟨g1,g2⟩:=yc8 h3;refine⟨by simp[g1],λj z hz=>?_⟩
  cases j with
  |zero=>simp at hz;subst hz;exact⟨x,rfl,h1⟩
  |succ j=>simpa using g2 j z (by simpa using hz)
section
variable{D:Type}{enc:TypeId×Value->D}{P:Program}
theorem Jc6 {T : TypeId → Prop} (K : Kids P T) (hsz : ∀ {t e : TypeId}, T t → P.underlying t = some (.slice e) → 0 < P.cellsOf e) {w w' : World} {sp : Nat → Bool} (hs : Nd7 w w') :
  ∀{ts:List TypeId} {vs:List Value} {ds:List (DataW D)} {ps:List MemPlace},(∀t∈ts,T t)->DataW.TrodAll enc P w 0 (λ_=>true) true ts vs ds ps->(∀p∈ps,p.block<w.heap.size)->(∀p∈ps,sp p.block=true)->DataW.TrodAll enc P w' 0 sp true ts vs ds ps
 |[],[],[],_,_,h,_,_=>h
 |t::ts,v::vs,d::ds,ps,ht,h,hlt,hsp=>by
  obtain⟨p,q,⟨fuel,h1⟩,h2,rfl⟩:=h;refine⟨p,q,⟨fuel,?_⟩,Jc6 K hsz hs (λt h=>ht t (by simp[h])) h2 (λx hx=>hlt x (by simp[hx])) (λx hx=>hsp x (by simp[hx])),rfl⟩
  exact DataW.trod_stays K hsz (λh=>by cases h) (ht t (by simp)) h1 (λx hx=>hs.same x (hlt x (by simp at hx ⊢;exact .inl hx))) (λx hx=>hsp x (by simp at hx ⊢;exact .inl hx))
 |[],_::_,_,_,_,h,_,_=>h.elim
 |[],[],_::_,_,_,h,_,_=>h.elim
 |_::_,[],_,_,_,h,_,_=>h.elim
 |_::_,_::_,[],_,_,h,_,_=>h.elim
theorem Df4 {T : TypeId → Prop} (K : Kids P T) (hsz : ∀ {t e : TypeId}, T t → P.underlying t = some (.slice e) → 0 < P.cellsOf e) {f : Func} {s : ChangeSpec} {apart fresh handsOn again : Bool} {W W' : World} {args : Array Value} {ds gs : List (DataW D)} {before : List MemPlace} {tb : TypeId}
  (hT:∀t∈f.params.toList,T t) (hW:DataW.Whole enc P f.params.toList s.vars apart W args.toList ds gs before) (hv:s.vars=[]) (hr:f.resultTypes=#[tb]) (hb:P.underlying tb=some .bool)
  (h1:(s.fn D ds).results=[.lit (.bool true)]) (h2:(s.fn D ds).args=ds) (h3:(s.fn D ds).vars=[]) (hs:Nd7 W W') :
  s.post enc P f apart fresh handsOn again W args (.bool true) W':=by
 have hlt:=hW.lt;obtain⟨pa,pv,hA,hV,hps,hz,hn⟩:=id hW;rw[hv] at hV;have hpv:gs=[]/\pv=[]:=by
  cases gs with
  |nil=>exact⟨rfl,hV⟩
  |cons=>exact hV.elim
 obtain⟨rfl,rfl⟩:=hpv;rw[<- Qlj ds] at h1 h3;have h2:(s.fn D (ds++[])).args=ds:=by rw[Qlj];exact h2
 have hpa:before=pa:=by rw[hps];simp
 subst hpa;have hagain:∀sp:Nat->Bool,(∀p∈before,sp p.block=true)->DataW.TrodAll enc P W' 0 sp true f.params.toList args.toList ds before:=λsp h=>Jc6 K hsz hs hT hA hlt h
 have hres:∀(b:Nat) (sp:Nat->Bool) (hd:Bool),DataW.TrodAll enc P W' b sp hd f.resultTypes.toList ((Value.bool true).resultList f.resultTypes.size) [.lit (.bool true)] []:=λb sp hd=>by
  rw[hr];exact⟨[],[],⟨1,by simp[DataW.trod,hb,Value.cells,Value.resultList]⟩,rfl,rfl⟩
 have hvars:∀sp:Nat->Bool,DataW.TrodVars enc P W' sp s.vars ([]:List (DataW D)) []:=λsp=>by rw[hv];exact rfl
 have hok:∀(j:Nat) (t:TypeId) (r:Value),f.resultTypes[j]?=some t->((Value.bool true).resultList f.resultTypes.size)[j]?=some r->Value.okWide P W' .any 0 t r:=by
  rw[hr];intro j t r h4 h5;cases j with
  |zero =>
   simp at h4
   subst h4
   have:r=.bool true:=by simpa [Value.resultList] using h5.symm
   subst this;exact okWide_bool_mk hb _
  |succ j=>simp at h4
 have hag:DataW.TrodAll enc P W' 0 (λ_=>true) true (f.resultTypes.toList++f.params.toList) ((Value.bool true).resultList f.resultTypes.size++args.toList) (.lit (.bool true)::ds) before:=by
  have:=hagain (λ_=>true) (λ_ _=>rfl)
  rw[hr];exact⟨[],before,⟨1,by simp[DataW.trod,hb,Value.cells,Value.resultList]⟩,this,rfl⟩
 refine⟨ds,[],before,[],before,[],hW,?_,?_,?_,hs.kept _,λ_=>?_⟩
 ·rw[h1];exact hres _ _ _
 ·rw[h2];exact hagain _ λp hp=>by simpa using hlt p hp
 ·rw[h3];exact hvars _
 ·refine⟨hok,.lit (.bool true)::ds,[],before,⟨before,[],hag,hvars _,by simp,?_,?_⟩,?_⟩
  ·intro b off hp;rw[hs.frozen b off (hlt _ hp)];exact hz b off (by simpa using hp)
  ·intro ha;simpa using hn ha
  ·intro p hp _;exact hp
variable{w:World}{base:Nat}{spare:Nat->Bool}{held:Bool}
def Wd1(w:World):Fz:=λb o=>(w.cell? ⟨b,o,none⟩).isSome
theorem kg3 {fuel : Nat} {t : TypeId} {k : IntKind} {cs : List Value} {x : DataW D × List MemPlace} (ht : P.underlying t = some (.int k)) (h : DataW.trod enc P w base spare held fuel t cs = some x) :
  ∃n,cs=[.int k n]/\(Lit.int k n).wf=true/\x.1=.lit (.int k n):=by
 cases fuel with
 |zero=>cases h
 |succ fuel =>
  match cs,h with
  |[],h=>simp[DataW.trod,ht] at h
  |[v],h =>
   cases v with
   |int k' n =>
    simp only[DataW.trod,ht] at h
    split at h
    ·rename_i hk;obtain⟨rfl,hw⟩:=hk;injection h with h;subst h
     exact⟨n,rfl,hw,rfl⟩
    ·cases h
   |_=>simp[DataW.trod,ht] at h
  |a::b::r,h=>simp[DataW.trod,ht] at h
theorem Sf8 {fuel : Nat} {t : TypeId} {cs : List Value} {x : DataW D × List MemPlace} (ht : P.underlying t = some .bool) (h : DataW.trod enc P w base spare held fuel t cs = some x) :
  ∃n,cs=[.bool n]/\x.1=.lit (.bool n):=by
 cases fuel with
 |zero=>cases h
 |succ fuel =>
  match cs,h with
  |[],h=>simp[DataW.trod,ht] at h
  |[v],h =>
   cases v with
   |bool n =>
    simp only[DataW.trod,ht] at h;injection h with h;subst h
    exact⟨n,rfl,rfl⟩
   |_=>simp[DataW.trod,ht] at h
  |a::b::r,h=>simp[DataW.trod,ht] at h
theorem Df5 {fuel : Nat} {t e : TypeId} {n : Nat} {cs : List Value} {x : DataW D × List MemPlace} (ht : P.underlying t = some (.array n e)) (h : DataW.trod enc P w base spare held fuel t cs = some x) :
  cs.length=P.cellsOf t/\∃(fuel':Nat) (xs:List (DataW D×List MemPlace)),xs.length=n/\x.1=.agg (xs.map (·.1))/\∀(j:Nat) y,xs[j]?=some y->DataW.trod enc P w base spare held fuel' e ((cs.drop (j*P.cellsOf e)).take (P.cellsOf e))=some y:=by
 cases fuel with
 |zero=>cases h
 |succ fuel =>
  unfold DataW.trod at h;rw[ht] at h
  simp only at h
  split at h
  ·rename_i hl;obtain⟨xs,h1,h2⟩:=Qlan.1 h;have hx:=yc8 h1;exact⟨hl,fuel,xs,by simpa using hx.1,by rw[<- h2],λj y hy=>by
    obtain⟨a,ha,hb⟩:=hx.2 j y hy
    have:j<n:=by
     have:=(List.getElem?_eq_some_iff.1 hy).1
     rw[hx.1] at this;simpa using this
    rw[Qlv this] at ha;injection ha with ha;subst ha;exact hb⟩
  ·cases h
theorem jf3 {fuel : Nat} {t : TypeId} {fs : Array Field} {cs : List Value} {x : DataW D × List MemPlace} (ht : P.underlying t = some (.struct fs)) (h : DataW.trod enc P w base spare held fuel t cs = some x) :
  cs.length=P.cellsOf t/\∃(fuel':Nat) (xs:List (DataW D×List MemPlace)),xs.length=fs.size/\x.1=.agg (xs.map (·.1))/\∀(j:Nat) f,fs[j]?=some f->∃y,xs[j]?=some y/\DataW.trod enc P w base spare held fuel' f.type ((cs.drop f.offset).take (P.cellsOf f.type))=some y:=by
 cases fuel with
 |zero=>cases h
 |succ fuel =>
  unfold DataW.trod at h;rw[ht] at h
  simp only at h
  split at h
  ·rename_i hl;obtain⟨xs,h1,h2⟩:=Qlan.1 h;have hx:=yc8 h1;refine⟨hl,fuel,xs,by simpa using hx.1,by rw[<- h2],λj f hf=>?_⟩
   have hj:j<xs.length:=by
    rw[hx.1];simpa using (Array.getElem?_eq_some_iff.1 hf).1
   obtain⟨a,ha,hb⟩:=hx.2 j _ (Qlm hj)
   have:a=f:=by
    have:fs.toList[j]?=some f:=by simpa using hf
    exact Option.some.inj (ha.symm.trans this)
   subst this;exact⟨_,Qlm hj,hb⟩
  ·cases h
theorem Df6 {fuel : Nat} {t e : TypeId} {cs : List Value} {x : DataW D × List MemPlace} (ht : P.underlying t = some (.slice e)) (h : DataW.trod enc P w base spare held fuel t cs = some x) :
  cs=[.slice none 0 0]\/∃(a:Addr) (n cap fuel':Nat),cs=[.slice (some a) n cap]/\n<=cap/\cap<=maxLen/\∀j,j<n->∃row y,w.cells? base (a.add (j*P.cellsOf e)) (P.cellsOf e)=some row/\DataW.trod enc P w base spare held fuel' e row=some y:=by
 cases fuel with
 |zero=>cases h
 |succ fuel =>
  match cs,h with
  |[],h=>simp[DataW.trod,ht] at h
  |[v],h =>
   cases v with
   |slice a len cap =>
    cases a with
    |none =>
     simp only[DataW.trod,ht] at h
     split at h<;>first | (rename_i e1;cases e1;done) | skip
     all_goals first | exact .inl rfl | (simp_all;done) | skip
    |some a =>
     refine .inr ?_;simp only[DataW.trod,ht] at h
     split at h
     ·rename_i hc;obtain⟨elems,h1,h2⟩:=Qln.1 h;have hx:=yc8 h1;refine⟨a,len,cap,fuel,rfl,hc.2.1,hc.2.2,λj hj=>?_⟩
      have hj':j<elems.length:=by rw[hx.1];simpa using hj
      obtain⟨i,hi,hb⟩:=hx.2 j _ (Qlm hj');rw[Qlv hj] at hi;injection hi with hi;subst hi;obtain⟨row,r1,r2⟩:=Qln.1 hb;exact⟨row,_,r1,r2⟩
     ·cases h
   |_=>simp[DataW.trod,ht] at h
  |a::b::r,h=>simp[DataW.trod,ht] at h
theorem af3:∀(d:Nat) (t:TypeId) (l:List (Nat×CK)),fa9 P d t=some l->∀(fuel:Nat) (cs:List Value) (x:DataW D×List MemPlace),DataW.trod enc P w base spare held fuel t cs=some x->∀p∈l,Ra9 cs.toArray p
 |0,_,_,h,_,_,_,_=>by cases h
 |d+1,t,l,h,fuel,cs,x,hx=>by
  have hpart:∀{off n:Nat} {e:TypeId} {l':List (Nat×CK)} {fuel':Nat} {y:DataW D×List MemPlace},rc1 off n (fa9 P d e)=some l'->DataW.trod enc P w base spare held fuel' e ((cs.drop off).take n)=some y->∀p∈l',Ra9 cs.toArray p:=λ{off n e l' fuel' y} h1 h2 p hp=>by
   obtain⟨l2,g1,g2,rfl⟩:=db8 h1;obtain⟨q,hq,rfl⟩:=List.mem_map.1 hp
   have:=af3 d e l2 g1 fuel' _ y h2 q hq
   have hlt:=g2 q hq;unfold Ra9 at this ⊢;simp only[List.getElem?_toArray,Qlad,hlt,if_true,List.getElem?_drop] at this ⊢;exact this
  have hcat:∀{α:Type} (f:α->Option (List (Nat×CK))) (xs:List α) (l:List (Nat×CK)),xa7 (xs.map f)=some l->∀p∈l,∃a∈xs,∃l',f a=some l'/\p∈l':=λ{α} f xs=>by
   induction xs with
   |nil=>intro l h;simp only[List.map_nil,xa7] at h;injection h with h;subst h;simp
   |cons a xs ih =>
    intro l h p hp;simp only[List.map_cons,xa7] at h;cases h1:f a with
    |none=>simp[h1] at h
    |some l1 =>
    cases h2:xa7 (xs.map f) with
    |none=>simp[h1,h2] at h
    |some l2 =>
    simp only[h1,h2] at h;injection h with h;subst h
    rcases Qlal.1 hp with hp|hp
    ·exact⟨a,by simp,l1,h1,hp⟩
    ·obtain⟨b,hb,r⟩:=ih l2 h2 p hp;exact⟨b,by simp[hb],r⟩
  unfold fa9 at h;cases hu:P.underlying t with
  |none=>simp[hu] at h
  |some u =>
  cases u with
  |int k =>
   simp only[hu] at h;injection h with h;subst h
   obtain⟨n,rfl,_,_⟩:=kg3 hu hx;intro p hp;simp at hp;subst hp;exact⟨n,rfl⟩
  |bool =>
   simp only[hu] at h;injection h with h;subst h
   obtain⟨n,rfl,_⟩:=Sf8 hu hx;intro p hp;simp at hp;subst hp;exact⟨n,rfl⟩
  |struct fs =>
   simp only[hu] at h
   split at h
   ·cases h
   obtain⟨_,fuel',xs,_,_,hxs⟩:=jf3 hu hx;intro p hp;obtain⟨f,hf,l',h1,h2⟩:=hcat _ _ _ h p hp
   split at h1
   ·cases h1
   obtain⟨j,hj⟩:=List.getElem?_of_mem hf;obtain⟨y,_,hy⟩:=hxs j f (by simpa using hj)
   have hc:P.cellsOf f.type=szT P f.type:=by
    unfold Program.cellsOf szT;cases P.info? f.type<;>rfl
   rw[hc] at hy;exact hpart h1 hy p h2
  |array n e =>
   simp only[hu] at h
   split at h
   case isFalse=>cases h
   obtain⟨_,fuel',xs,hn,_,hxs⟩:=Df5 hu hx;intro p hp;obtain⟨j,hj,l',h1,h2⟩:=hcat _ _ _ h p hp;have hj':j<xs.length:=by rw[hn];simpa using hj
   have hy:=hxs j _ (Qlm hj');have hc:P.cellsOf e=szT P e:=by
    unfold Program.cellsOf szT;cases P.info? e<;>rfl
   rw[hc] at hy;exact hpart h1 hy p h2
  |_=>simp[hu] at h
def Ca3(k:IntKind)(es:Nat)(g:Nat->Int):List b7:=(List.range es).map λc=>.v (.int k (g c))
def Na0(k:IntKind)(es:Nat):List (Nat×CK):=(List.range es).map λc=>(c,.int k)
theorem af4 {d : Nat} {t : TypeId} {k : IntKind} {es : Nat} (hf : fa9 P d t = some (Na0 k es)) {fuel : Nat} {cs : List Value} {x : DataW D × List MemPlace} (hx : DataW.trod enc P w base spare held fuel t cs = some x) (hl : cs.length = es) :
  ∃g:Nat->Int,∀c,c<es->cs[c]?=some (.int k (g c)):=by
 have h:=af3 d t _ hf fuel cs x hx;have h':∀c,∃n:Int,c<es->cs[c]?=some (.int k n):=λc=>by
  by_cases hc:c<es
  ·have:=h (c,.int k) (List.mem_map.2 ⟨c,by simpa using hc,rfl⟩)
   obtain⟨n,hn⟩:=this;exact⟨n,λ_=>by simpa using hn⟩
  ·exact⟨0,λh=>absurd h hc⟩
 exact⟨λc=>Classical.choose (h' c),λc hc=>Classical.choose_spec (h' c) hc⟩
theorem Df7{F:Fz}{w:World}(k:IntKind)(n:Int):ka6 F w (.v (.int k n)) (.int k n):=.v _ rfl
theorem Nd8{k:IntKind}{es:Nat}{g:Nat->Int}{c:Nat}{x:b7}(h:(Ca3 k es g)[c]?=some x):c<es/\x=.v (.int k (g c)):=by
 unfold Ca3 at h;obtain⟨h1,h2⟩:=gb3 h;exact⟨h1,h2.symm⟩
theorem Wd2 {t e : TypeId} {k : IntKind} {es d : Nat} (ht : P.underlying t = some (.slice e)) (hf : fa9 P d e = some (Na0 k es)) (hes : P.cellsOf e = es) (h0 : 0 < es) {fuel : Nat} {cs : List Value} {x : DataW D × List MemPlace} (hx : DataW.trod enc P w 0 spare held fuel t cs = some x) :
  ∃(v:Value) (n:Nat) (g:Nat->Nat->Int),cs=[v]/\n<=maxLen/\ka6 (Wd1 w) w (.tree es n λj=>Ca3 k es (g j)) v:=by
 rcases Df6 ht hx with rfl|⟨a,n,cap,fuel',rfl,hn,hc,hel⟩
 ·exact⟨_,0,λ_ _=>0,rfl,Qlf _,.nil _ _⟩
 ·rw[hes] at hel;have hcell:∀j,j<n->∃g:Nat->Int,∀c,c<es->w.cell? ((a.add (j*es)).add c)=some (.int k (g c)):=λj hj=>by
   obtain⟨row,y,h1,h2⟩:=hel j hj;unfold World.cells? at h1
   split at h1
   ·obtain⟨l1,l2⟩:=yc8 h1;have hl:row.length=es:=by simpa using l1
    obtain⟨g,hg⟩:=af4 hf h2 hl;refine⟨g,λc hc=>?_⟩
    obtain⟨i,hi,hi2⟩:=l2 c _ (hg c hc);rw[Qlv hc] at hi;injection hi with hi;subst hi;exact hi2
   ·cases h1
  have hg:∀j,∃g:Nat->Int,j<n->∀c,c<es->w.cell? ((a.add (j*es)).add c)=some (.int k (g c)):=λj=>by
   by_cases hj:j<n
   ·obtain⟨g,hg⟩:=hcell j hj;exact⟨g,λ_=>hg⟩
   ·exact⟨λ_=>0,λh=>absurd h hj⟩
  obtain⟨g,hg⟩:=Classical.axiomOfChoice hg;have hspot:0<n->a.spot=none:=λhn=>by
   have:=hg 0 hn 0 h0
   simpa [Addr.add] using World.cell?_spot this
  have hw:∀j c,j<n->c<es->w.cell? ⟨a.block,a.off+(j*es+c),none⟩=some (.int k (g j c)):=λj c hj hc=>by
   have:=hg j hj c hc
   rw[ga0 (hspot (by omega)),ga0 rfl] at this
   simpa [Nat.add_assoc] using this
  refine⟨_,n,g,rfl,Nat.le_trans hn hc,.tree es n _ a cap (λj c=>.int k (g j c)) hspot hn (λi hi=>by simp[Ca3]) (λi c hi hc=>?_) hw λi c hi hc=>?_⟩
  ·unfold Wd1;rw[hw i c hi hc];rfl
  ·have:=(Nd8 (Qlm hc)).2
   rw[this];exact Df7 _ _
theorem jf4(w:World):B4 (λk=>w.heap.size<=k) (λ_=>⟨0,0,0⟩) [] (Wd1 w) w :=
 ⟨λid b h=>by simp at h,λid id' b b' h=>by simp at h,λ_ _ h=>h,λ_ h=>h⟩
theorem jf5 {G : Nat → List Value} {f : FuncId} {S : Sum} (hS : i5 P G f S) {aargs : List b7} {args : List Value} (hrun : ∃ out, (S aargs []).run = some (b true, out)) (hl : aargs.length = args.length)
  (ha:∀(i:Nat) x x',aargs[i]?=some x->args[i]?=some x'->ma1 (λ_=>⟨0,0,0⟩) [] (Wd1 w) w x x') (hG:∀g (c:Nat) x,(G g)[c]?=some x->x.oneCell'=true/\w.cell? ⟨g,c,none⟩=some x) :
  Calls P f args.toArray w λe w'=>e=.returned (.bool true)/\Nd7 w w':=by
 obtain⟨out,hrun⟩:=hrun;obtain⟨_,hc⟩:=hS aargs [] (b true) out hrun (λk=>w.heap.size<=k) (λ_=>⟨0,0,0⟩) (Wd1 w) w args (jf4 w) hl (λi x x' h1 h2=>.val (ha i x x' h1 h2)) (λg c x hx=>by
  obtain⟨h1,h2⟩:=hG g c x hx;exact⟨h1,by unfold Wd1;rw[h2];rfl,h2⟩)
 refine hc.mono λe w' ⟨r',he,ρ',F',hA,hH,hW⟩=>?_
 have:=ia0 hW
 subst this;exact⟨he,hA.ext.os,hA.ext.output,hA.ext.size,λk hk=>hA.ext.block k hk (by omega)⟩
theorem Sf9 {ρ : Rho} {H : List b8} {F : Fz} {t : TypeId} {k : IntKind} {es d : Nat} {v : Value} {dd : DataW D} {pp : List MemPlace} {bs : Nat} {r : Reach} (hag : agT P t = true) (hf : fa9 P d t = some (Na0 k es)) (hes : P.cellsOf t = es)
  (hok:Value.okWide P w r bs t v) (h:DataW.Trod enc P w base spare held t v dd pp):∃g:Nat->Int,ma1 ρ H F w (.agg (Ca3 k es g)) v:=by
 have hv:∃cs:Array Value,v=.agg cs/\cs.size=P.cellsOf t:=by
  unfold agT at hag;unfold Value.okWide at hok
  split at hag
  ·rename_i fs hu;rw[hu] at hok;obtain⟨cs,h1,h2,_⟩:=hok;exact⟨cs,h1,h2⟩
  ·rename_i n e hu;rw[hu] at hok;obtain⟨cs,h1,h2,_⟩:=hok;exact⟨cs,h1,h2⟩
  ·cases hag
 obtain⟨cs,rfl,hsz⟩:=hv;obtain⟨fuel,hx⟩:=h;have hx:DataW.trod enc P w base spare held fuel t cs.toList=some (dd,pp):=hx;obtain⟨g,hg⟩:=af4 hf hx (by simpa [hes] using hsz)
 refine⟨g,.agg _ _ (by simp[Ca3,hsz,hes]) λc x x' h1 h2=>?_⟩
 obtain⟨hc,rfl⟩:=Nd8 h1
 have:=hg c hc
 have h3:some x'=some (.int k (g c)):=by rw[<- h2];simpa using this
 injection h3 with h3;subst h3;exact .v _
theorem jf6 {ρ : Rho} {H : List b8} {t e : TypeId} {k : IntKind} {es d : Nat} {v : Value} {dd : DataW D} {pp : List MemPlace} {bs : Nat} {r : Reach} (ht : P.underlying t = some (.slice e)) (hf : fa9 P d e = some (Na0 k es)) (hes : P.cellsOf e = es) (h0 : 0 < es)
  (hok:Value.okWide P w r bs t v) (h:DataW.Trod enc P w 0 spare held t v dd pp):∃(n:Nat) (g:Nat->Nat->Int),n<=maxLen/\ma1 ρ H (Wd1 w) w (.tree es n λj=>Ca3 k es (g j)) v:=by
 obtain⟨fuel,hx⟩:=h;obtain⟨v',n,g,h1,h2,h3⟩:=Wd2 ht hf hes h0 hx;have hv:v.cells=#[v]:=by
  unfold Value.okWide at hok;rw[ht] at hok;cases v with
  |agg cs=>exfalso;simp[Cell.okWide,Cell.ok,ht] at hok
  |_=>rfl
 rw[hv] at h1
 have:v=v':=by simpa using h1
 subst this;exact⟨n,g,h2,.cell (.mem h3)⟩
end
end Go.Ev
namespace Go.Ev.L
open Go Go.Ev
theorem Df8 {α : Type} (t : Ty α) (n : Nat) (g : Nat → Nat → Int) (f : (Nat → Int) → α) (h : ∀ j, Ca3 .i64 t.es (g j) = t.row (f (g j))) :
  ∃l,(ea7 t).dec (.tree t.es n λj=>Ca3 .i64 t.es (g j))=some l/\(ea7 t).grd (.tree t.es n λj=>Ca3 .i64 t.es (g j))=true:=by
 refine⟨lsL t n λj=>Ca3 .i64 t.es (g j),?_,nb6 t (f:=λk=>f (g k)) λk _=>h k⟩
 show Bool.rec (motive:=λ_=>Option (List α)) none (some (lsL t n λj=>Ca3 .i64 t.es (g j))) (Nat.beq t.es t.es)=_
 rw[Qlaj]
def Rdg{α:Type}(c:Cod α)(x:b7)(a:α):Prop:=c.dec x=some a/\c.grd x=true
theorem Df9{α:Type}(t:Ty α)(n:Nat)(g:Nat->Nat->Int)(f:(Nat->Int)->α)(h:∀j,Ca3 .i64 t.es (g j)=t.row (f (g j))):∃l,Rdg (ea7 t) (.tree t.es n λj=>Ca3 .i64 t.es (g j)) l:=Df8 t n g f h
theorem Ef0(n:Nat)(g:Nat->Nat->Int):∃l,Rdg (ea7 tI) (.tree 1 n λj=>Ca3 .i64 1 (g j)) l:=Df9 tI n g (λg=>g 0) λ_=>rfl
section
variable{α β γ δ ε:Type}{c:Cod α}{d:Cod β}{e:Cod γ}{f:Cod δ}{c5:Cod ε}{x y z w v:b7}{a:α}{b':β}{g:γ}{j:δ}{m:ε}{r:b7×List b8}
theorem Kg6{k:α->β->γ->δ->DT (b7×List b8)}(h1:Rdg c x a)(h2:Rdg d y b')(h3:Rdg e z g)(h4:Rdg f w j)(h:(k a b' g j).run=some r):(ve4 c d e f k [x,y,z,w] []).run=some r:=by
 unfold ve4;simp only[h1.1,h1.2,h2.1,h2.2,h3.1,h3.2,h4.1,h4.2];exact h
end
theorem kg4{g p:Bool}(hg:g=true)(hp:p=true):(DT.guard g (.ret ((one r1B).enc p,([]:List b8)))).run=some (b true,([]:List b8)):=by subst hg;subst hp;rfl
end Go.Ev.L
namespace Go.Ev.Ce
open Go Go.Ev Go.Ev.L Go.Proofs
structure B3 where
 b0:Int
 b1:Int
 b2:Int
def okB:List b7->Bool
 |[.v (.int .u8 _),.v (.int .u8 _),.v (.int .u8 _)]=>true
 |_=>false
def rdB:List b7->B3
 |[.v (.int .u8 x),.v (.int .u8 y),.v (.int .u8 z)]=>⟨x,y,z⟩
 |_=>⟨0,0,0⟩
noncomputable def tW:Ty B3 where
 es:=3
 row x:=[.v (.int .u8 x.b0),.v (.int .u8 x.b1),.v (.int .u8 x.b2)]
 rd:=rdB
 ok:=okB
 cks:=List.replicate 3 (.int .u8)
 d:=⟨0,0,0⟩
 h0 _:=rfl
 h1 _:=rfl
 h2 _:=rfl
 h3 r h:=by
  unfold okB at h
  split at h
  ·exact .refl _
  ·cases h
 h4 _:=rfl
 h5 _:=rfl
structure B2 where
 d0:Int
 d1:Int
structure LL where
 u:List Int
 v:List Int
set_option maxRecDepth 100000
noncomputable def Nd9:List (Nat×Sum):=[]
theorem ud7:i7 prog G Nd9:=trivial
noncomputable def ac0  : Option (b7×List b8):=(some (.sl 0 0 4 0,[⟨27,3,[[i 0,i 0,i 0],[i 1,i 0,i 0],[i 0,i 1,i 0],[i 0,i 0,i 1]],true,false,0⟩]))
noncomputable def tb5  : List V3:=E9 (one (r1L tV)) ac0
noncomputable def Ja8  : Bool:=okO (one (r1L tV)) ac0
noncomputable def Jc7:Sum:=ve3  (.guard Ja8 (.ret ((one (r1L tV)).enc tb5,[])))
theorem Od0:i5 prog G 67 Jc7:=mg8 (bd b67 ud7) (one (r1L tV)) (o:=ac0) (o5 (by kernel_rfl))
noncomputable def Od1:List (Nat×Sum):=[]
theorem ud8:i7 prog G Od1:=trivial
noncomputable def tb6(x:B3):V3:=(⟨W (Int.tmod x.b0 4),W (Int.tmod x.b1 4),W (Int.tmod x.b2 4)⟩:V3)
noncomputable def Jc8:Sum:=O9 (I8 tW) (λx=>.ret ((one r1V).enc (tb6 x),[]))
theorem Od2:i5 prog G 18 Jc8:=Db9 (bd b18 ud8) λx=>o5 (by kernel_rfl)
noncomputable def yc9:List (Nat×Sum):=[(83,Ca5)]
theorem ud9:i7 prog G yc9:=⟨Da2,trivial⟩
structure Ia6 where
 ab0:List Pln
 (is8 c8 b9 c9:Int)
structure U9 where
 is9:Int
noncomputable def fc9(p:Ia6)(s:U9):St:=⟨ra 3 (.ptr 0 0 0 0::ra 3 (eL tP p.ab0::i p.is8::i s.is9::ra 11 [])),[⟨0,3,[[i p.c8,i p.b9,i p.c9]],true,false,0⟩]⟩
noncomputable def xa3{α:Type}(k:U9->α)(e:Nat->α)(z:α)(p:Ia6)(s:U9):α:=let t1:=(j7 (gL tP p.ab0 s.is9.toNat).n (⟨p.c8,p.b9,p.c9⟩:V3));(sl (decide (s.is9<p.is8)) (sl (inB s.is9 (List.length p.ab0)) (sl (decide (t1>(gL tP p.ab0 s.is9.toNat).b)) (e 1) (k ⟨W (s.is9+1)⟩)) z) (e 2))
noncomputable def Ca4(p:Ia6)(s:U9):Stp U9:=xa3 .next .exit .fail p s
noncomputable def Cb7:Lo Ia6 U9:=⟨En yc9,0,og4,[1,0,1,4,4],[3,7,8,9],.p,[⟨ru2 3 (sPq 0::ru2 3 (sLq tP::sIq::sIq::ru2 11 [])),[⟨0,3,true,some [kLq 3]⟩],λa H=>(⟨aLq tP a 7,aIq a 8,hIq H 0 0 0,hIq H 0 0 1,hIq H 0 0 2⟩,⟨aIq a 9⟩)⟩],Ca4,[(none,λp s=>⟨[b false],[]⟩),(some 0,λp s=>upq (fc9 p s) [(10,b (decide (s.is9<p.is8)))])],fc9⟩
theorem kd3:Cb7.Ok:=Lo.ok [] (by kernel_rfl) .nil rfl (.cons (λa H=>by kernel_rfl) .nil) λp s=>(.of @xa3 (λF _ _ _ _ _=>by unfold xa3;(repeat' apply j6 (f:=F))<;>rfl) (by kernel_rfl))
noncomputable def Za9(x:List Pln)(y:V3):Option (b7×List b8):=let t1:=(lp (Ca4 (⟨rt tP x,(↑(List.length x):Int),y.x,y.y,y.z⟩:Ia6)) (⟨0⟩:U9));(sl ((cnE tP x)&&true) (sl (Nat.beq t1.1 1) (some (b false,[])) (sl (Nat.beq t1.1 2) (some (b true,[])) none)) none)
noncomputable def Ja9(x:List Pln)(y:V3):Bool:=E9 (one r1B) (Za9 x y)
noncomputable def za4(x:List Pln)(y:V3):Bool:=okO (one r1B) (Za9 x y)
noncomputable def Jc9:Sum:=ma5 (ea7 tP) (I8 tV) (λx y=>.guard (za4 x y) (.ret ((one r1B).enc (Ja9 x y),[])))
theorem Od3:i5 prog G 66 Jc9:=nb8 (bd b66 ud9) (one r1B) (o:=Za9) λx y=>za7 (.s .p (.s (.s .p (.b (.u Cb7.ls))) .p)) [Cb7.pr] (by kernel_rfl) (.cons kd3 .nil) (by kernel_rfl)
noncomputable def vd0:List (Nat×Sum):=[(19,Nc6),(21,lc6),(23,Gd9),(67,Jc7),(28,de4),(30,yc6),(31,Jc4)]
theorem kd4:i7 prog G vd0:=⟨nd8,Jc0,Be6,Od0,Se1,ud5,Nd5,trivial⟩
noncomputable def Ra6  : Option (b7×List b8):=let t1:=(db6 [(⟨(⟨1,1,1⟩:V3),3⟩:Pln),(⟨(⟨-1,0,0⟩:V3),0⟩:Pln)] (⟨1,0,2⟩:V3));let t2:=(Ta4 [(⟨(⟨1,1,1⟩:V3),3⟩:Pln),(⟨(⟨-1,0,0⟩:V3),0⟩:Pln)] (⟨1,0,2⟩:V3));let t3:=(Mb5 (rt tP t1.1) [(⟨(⟨1,1,1⟩:V3),6⟩:Pln),(⟨(⟨-1,0,0⟩:V3),1⟩:Pln)]);let t4:=(Mb5 (rt tP t2.1) [(⟨(⟨1,1,1⟩:V3),0⟩:Pln),(⟨(⟨-1,0,0⟩:V3),-1⟩:Pln)]);let t5:=(db6 [(⟨(⟨1,1,1⟩:V3),3⟩:Pln),(⟨(⟨-1,0,0⟩:V3),0⟩:Pln)] (⟨13,0,0⟩:V3));let t6:=(Ta4 [(⟨(⟨1,1,1⟩:V3),3⟩:Pln),(⟨(⟨-1,0,0⟩:V3),0⟩:Pln)] (⟨0,-1,0⟩:V3));let t7:=(db6 [(⟨(⟨1,0,0⟩:V3),2097152⟩:Pln)] (⟨1,0,0⟩:V3));let t8:=tb5;let t9:=(Hb7 (rt tV t8) [(⟨0,0,0⟩:V3),(⟨2,0,0⟩:V3)]);let t10:=(Ra4 (rt tV t9.1) [(⟨0,0,0⟩:V3),(⟨0,0,1⟩:V3),(⟨0,1,0⟩:V3),(⟨2,0,1⟩:V3),(⟨2,1,0⟩:V3),(⟨3,0,0⟩:V3)]);let t11:=(Hb7 (rt tV t8) []);let t12:=(Hb7 (rt tV t8) [(⟨24,0,0⟩:V3)]);let t13:=(Za5 (rt tV t8) (⟨3,-1,2⟩:V3));let t14:=(Za5 [] (⟨3,0,0⟩:V3));(sl (db7 [(⟨(⟨1,1,1⟩:V3),3⟩:Pln),(⟨(⟨-1,0,0⟩:V3),0⟩:Pln)] (⟨1,0,2⟩:V3)) (sl (Ta5 [(⟨(⟨1,1,1⟩:V3),3⟩:Pln),(⟨(⟨-1,0,0⟩:V3),0⟩:Pln)] (⟨1,0,2⟩:V3)) (sl (!t1.2) (some (b false,[])) (sl (!t2.2) (some (b false,[])) (sl (okE tP t1.1) (sl (Mb6 (rt tP t1.1) [(⟨(⟨1,1,1⟩:V3),6⟩:Pln),(⟨(⟨-1,0,0⟩:V3),1⟩:Pln)]) (sl (!t3) (some (b false,[])) (sl (okE tP t2.1) (sl (Mb6 (rt tP t2.1) [(⟨(⟨1,1,1⟩:V3),0⟩:Pln),(⟨(⟨-1,0,0⟩:V3),-1⟩:Pln)]) (sl (!t4) (some (b false,[])) (sl (db7 [(⟨(⟨1,1,1⟩:V3),3⟩:Pln),(⟨(⟨-1,0,0⟩:V3),0⟩:Pln)] (⟨13,0,0⟩:V3)) (sl (Ta5 [(⟨(⟨1,1,1⟩:V3),3⟩:Pln),(⟨(⟨-1,0,0⟩:V3),0⟩:Pln)] (⟨0,-1,0⟩:V3)) (sl (db7 [(⟨(⟨1,0,0⟩:V3),2097152⟩:Pln)] (⟨1,0,0⟩:V3)) (sl Ja8 (sl (okE tV t8) (sl (Hb8 (rt tV t8) [(⟨0,0,0⟩:V3),(⟨2,0,0⟩:V3)]) (sl t5.2 (some (b false,[])) (sl t6.2 (some (b false,[])) (sl t7.2 (some (b false,[])) (sl (t9.2 != 0) (some (b false,[])) (sl (okE tV t9.1) (sl (Ra5 (rt tV t9.1) [(⟨0,0,0⟩:V3),(⟨0,0,1⟩:V3),(⟨0,1,0⟩:V3),(⟨2,0,1⟩:V3),(⟨2,1,0⟩:V3),(⟨3,0,0⟩:V3)]) (sl (!t10) (some (b false,[])) (sl Ja8 (sl (okE tV t8) (sl (Hb8 (rt tV t8) []) (sl Ja8 (sl (okE tV t8) (sl (Hb8 (rt tV t8) [(⟨24,0,0⟩:V3)]) (sl Ja8 (sl (okE tV t8) (sl (Za6 (rt tV t8) (⟨3,-1,2⟩:V3)) (sl (Za6 [] (⟨3,0,0⟩:V3)) (sl (t11.2==11) (sl (t12.2==3) (sl (t13.1==3) (sl t13.2 (some (b (!t14.2),[])) (some (b false,[]))) (some (b false,[]))) (some (b false,[]))) (some (b false,[]))) none) none) none) none) none) none) none) none) none) none)) none) none))))) none) none) none) none) none) none)) none) none)) none) none))) none) none)
noncomputable def mb3  : Bool:=E9 (one r1B) Ra6
noncomputable def mb4  : Bool:=okO (one r1B) Ra6
noncomputable def zc0:Sum:=ve3  (.guard mb4 (.ret ((one r1B).enc mb3,[])))
theorem vd1:i5 prog G 15 zc0:=mg8 (bd b15 kd4) (one r1B) (o:=Ra6) (o5 (by kernel_rfl))
noncomputable def pe0(v:V3):List b7:=[i v.x,i v.y,i v.z,b true]
noncomputable def Pb1(l:List V3):List (List b7):=l.map pe0
@[reducible] noncomputable def flV:List (Nat×CK):=[(0,.int .i64),(1,.int .i64),(2,.int .i64)]
def pe1(l:List V3)(x:V3):Bool:=l.any λq=>eqV q x
theorem Ef1(l:List V3)(x:V3):pe1 l x=true↔x∈l:=by
 unfold pe1;rw[Qld];exact⟨λ⟨q,hq,e⟩=>(Yc8 q x).1 e ▸ hq,λh=>⟨x,h,(Yc8 x x).2 rfl⟩⟩
theorem de5(x q:V3):Pb8 flV [i x.x,i x.y,i x.z] (pe0 q)=eqV q x:=by
 show Bool.and (decide (x.x=q.x)) (Bool.and (decide (x.y=q.y)) (Bool.and (decide (x.z=q.z)) true))=_;unfold eqV;have h:∀a c:Int,decide (a=c)=(c==a):=λa c=>by rw[Bool.eq_iff_iff,decide_eq_true_eq,beq_iff_eq];exact eq_comm
 rw[h,h,h]
theorem Ef2(x:V3):∀l,La5 3 [(0,.int .i64),(1,.int .i64),(2,.int .i64)] [i x.x,i x.y,i x.z] (Pb1 l)=pe1 l x
 |[]=>rfl
 |q::l=>by
  have ih:=Ef2 x l;unfold La5 at ih ⊢;show Option.rec (motive:=λ_=>Bool) false (λr=>toB (hdA (j8 r 3))) (Bool.rec (motive:=λ_=>Option (List b7)) (Fc0 flV [i x.x,i x.y,i x.z] (Pb1 l)) (some (pe0 q)) (Pb8 flV [i x.x,i x.y,i x.z] (pe0 q)))=pe1 (q::l) x
  rw[de5];unfold pe1 at ih ⊢;rw[List.any_cons];cases eqV q x with
  |true=>rfl
  |false=>exact ih
theorem kg5(x:V3):∀l,pe1 l x=false->aa3 [(0,.int .i64),(1,.int .i64),(2,.int .i64)] [i x.x,i x.y,i x.z] [i x.x,i x.y,i x.z,b true] (Pb1 l)=Pb1 (l++[x])
 |[],_=>rfl
 |q::l,h=>by
  unfold pe1 at h;rw[List.any_cons,Bool.or_eq_false_iff] at h;show Bool.rec (motive:=λ_=>List (List b7)) (pe0 q::aa3 flV [i x.x,i x.y,i x.z] (pe0 x) (Pb1 l)) (pe0 x::Pb1 l) (Pb8 flV [i x.x,i x.y,i x.z] (pe0 q))=_
  rw[de5,h.1,show aa3 flV [i x.x,i x.y,i x.z] (pe0 x) (Pb1 l)=_ from kg5 x l h.2]
  rfl
def kd5(s:List V3)(v:V3):List V3:=if pe1 s v then s else s++[v]
noncomputable def ad1(x:V3)(s:List V3)(y:V3):List V3:=kd5 s (g9 x y)
noncomputable def Cb8(l:List V3)(s:List V3)(x:V3):List V3:=l.foldl (ad1 x) s
noncomputable def Ma5(a l:List V3):List V3:=a.foldl (Cb8 l) []
theorem pe2(s:List V3)(v:V3):kd5 s v≠[]:=by
 unfold kd5;split
 ·rename_i h;intro e;rw[e] at h;cases h
 ·simp
theorem Ge3(s:List V3)(v:V3):(kd5 s v).length<=s.length+1:=by
 unfold kd5;split
 ·omega
 ·simp
theorem Ef3(s:List V3)(v w:V3):w∈kd5 s v↔w∈s\/w=v:=by
 unfold kd5;split
 ·rename_i h;rw[Ef1] at h;exact⟨.inl,λh'=>h'.elim id λe=>e ▸ h⟩
 ·rw[Qlal,Qlae]
theorem Ge4(x w:V3):∀(l s:List V3),w∈Cb8 l s x↔w∈s\/∃y∈l,w=g9 x y
 |[],s=>by simp[Cb8]
 |y::l,s=>by
  have ih:=Ge4 x w l (ad1 x s y);show w∈Cb8 l (ad1 x s y) x↔_;rw[ih];unfold ad1;rw[Ef3];simp only[Qlw,exists_eq_or_imp,or_assoc]
theorem de6(w:V3)(l:List V3):∀(a s:List V3),w∈a.foldl (Cb8 l) s↔w∈s\/∃x∈a,∃y∈l,w=g9 x y
 |[],s=>by simp
 |x::a,s=>by
  rw[List.foldl_cons,de6 w l a (Cb8 l s x),Ge4];simp only[Qlw,exists_eq_or_imp,or_assoc]
theorem Ef4(a l:List V3)(w:V3):w∈Ma5 a l↔∃x∈a,∃y∈l,w=g9 x y:=by
 unfold Ma5;rw[de6];simp
theorem Ge5(x:V3):∀(l s:List V3),(Cb8 l s x).length<=s.length+l.length
 |[],s=>by simp[Cb8]
 |y::l,s=>by
  have h1:=Ge5 x l (ad1 x s y);have h2:=Ge3 s (g9 x y);unfold ad1 at h1;show (Cb8 l (kd5 s (g9 x y)) x).length<=_;simp only[List.length_cons];omega
theorem kd6(l:List V3):∀(a s:List V3),(a.foldl (Cb8 l) s).length<=s.length+a.length*l.length
 |[],s=>by simp
 |x::a,s=>by
  have h1:=kd6 l a (Cb8 l s x);have h2:=Ge5 x l s;rw[List.foldl_cons,List.length_cons,Nat.succ_mul];omega
theorem Ef5(a l:List V3):(Ma5 a l).length<=a.length*l.length:=by
 have:=kd6 l a []
 simp only[List.length_nil,Qle] at this;exact this
noncomputable def qc0(x:V3)(j:Nat)(o:List V3):q9:=match o with
 |[]=>⟨0,(j:Int),0,[],[],0,0,0⟩
 |q::o=>⟨1,(j:Int),(q::o).length,bL tV (q::o),Pb1 (q::o),x.x,x.y,x.z⟩
theorem af5{x:V3}{j:Nat}{o:List V3}(h:o≠[]):qc0 x j o=⟨1,(j:Int),o.length,bL tV o,Pb1 o,x.x,x.y,x.z⟩:=by
 cases o with
 |nil=>exact absurd rfl h
 |cons q o=>rfl
theorem wg3(O:List V3)(v:V3):app (bL tV O) [[i v.x,i v.y,i v.z]]=bL tV (O++[v]):=Ka4 tV O [v]
theorem Ef6 (x : V3) (l : List V3) (P : G3) (h1 : P.Oc8 = l) (h2 : P.Se8 = (l.length : Int)) (hl : l.length ≤ 48) (o : List V3) (ho : o.length ≤ 1000000) (hP : o = [] → P.y5 = x.x ∧ P.y6 = x.y ∧ P.y7 = x.z) :
  ∃t s,lp (O5 P) (qc0 x 0 o)=(t,s)/\(t=phV (Cb8 l o x)+1/\∃j,s=qc0 x j (Cb8 l o x)):=by
 refine P5 (step:=O5 P) (mk:=qc0 x) l.length (λj s=>j<=l.length/\s=(l.take j).foldl (ad1 x) o/\s.length<=o.length+j/\(s=[]->P.y5=x.x/\P.y6=x.y/\P.y7=x.z)) (λt s=>t=phV (Cb8 l o x)+1/\∃j,s=qc0 x j (Cb8 l o x)) (by omega)
  (λj s hj hi=>?_) (λj s hj hi=>?_) 0 o ⟨Qlf _,by simp,by omega,hP⟩
 ·obtain⟨_,hi,hlen,hz⟩:=hi;have hn:=m9 hj (show l.length<=4611686018427387904 by omega)
  have hb:inB (j:Int) l.length=true:=f9 hj;have hT:(l.take (j+1)).foldl (ad1 x) o=kd5 s (g9 x (gL tV l j)):=by
   rw[Gb2 tV hj,List.foldl_append,<- hi];rfl
  have hnext:∀{s':q9},s'=qc0 x (j+1) (kd5 s (g9 x (gL tV l j)))->Nx (.next s') (λt=>t=phV (Cb8 l o x)+1/\∃j',qc0 x j s=qc0 x j' (Cb8 l o x)) (λs'=>∃o',s'=qc0 x (j+1) o'/\(j+1<=l.length/\o'=(l.take (j+1)).foldl (ad1 x) o/\o'.length<=o.length+(j+1)/\(o'=[]->P.y5=x.x/\P.y6=x.y/\P.y7=x.z))):=λ{s'} hs=>.nx ⟨_,hs,by omega,hT.symm,by have:=Ge3 s (g9 x (gL tV l j));omega,λh=>absurd h (pe2 _ _)⟩
  clear hi
  cases s with
  |nil =>
   obtain⟨z1,z2,z3⟩:=hz rfl;have hu:∀v:V3,aa3 [(0,.int .i64),(1,.int .i64),(2,.int .i64)] [i v.x,i v.y,i v.z] [i v.x,i v.y,i v.z,b true] []=Pb1 [v]:=λv=>kg5 v [] rfl
   have hv:∀v:V3,La5 3 [(0,.int .i64),(1,.int .i64),(2,.int .i64)] [i v.x,i v.y,i v.z] []=false:=λv=>Ef2 v []
   have hs:kd5 [] (g9 x (gL tV l j))=[g9 x (gL tV l j)]:=rfl;have e:O5 P (qc0 x j [])=.next ⟨1,((j+1:Nat):Int),1,[[i (g9 x (gL tV l j)).x,i (g9 x (gL tV l j)).y,i (g9 x (gL tV l j)).z]],Pb1 [g9 x (gL tV l j)],x.x,x.y,x.z⟩:=by
    show Q5 Stp.next Stp.exit Stp.fail P (qc0 x j [])=_;simp only[Q5,qc0,h1,h2,z1,z2,z3,Int.toNat_natCast,hn,hb,hv,hu,Bool.not_false,l9];rw[btD (i8 hj)]
   rw[e];exact hnext (by rw[hs];rfl)
  |cons q s =>
   have rr:(Nat.beq (q::s).length (len (bL tV (q::s)))&&Nat.ble (((q::s).length+1)*24) room)=true:=wf7 rfl (by omega)
   show Nx (Q6 Stp.next Stp.exit Stp.fail P (qc0 x j (q::s))) _ _;simp only[Q6,qc0,h1,h2,Int.toNat_natCast,hn,hb,Ef2,rr,wg3];rw[btD (i8 hj)];cases hh:pe1 (q::s) (g9 x (gL tV l j)) with
   |true =>
    refine hnext ?_;rw[af5 (pe2 _ _)];unfold kd5;rw[hh];rfl
   |false =>
    refine hnext ?_;rw[af5 (pe2 _ _)];unfold kd5;rw[hh,kg5 _ _ hh];show (⟨1,_,(q::s).length+1,_,_,_,_,_⟩:q9)=⟨1,_,(q::s++[_]).length,_,_,_,_,_⟩;rw[Qla];rfl
 ·obtain⟨hje,hi,hlen,hz⟩:=hi;have hje:j=l.length:=by omega
  subst hje;have hO:s=Cb8 l o x:=by rw[hi,Qlak];rfl
  rw[<- hO];cases s with
  |nil =>
   refine⟨1,?_,rfl,_,rfl⟩;show Q5 Stp.next Stp.exit Stp.fail P (qc0 x l.length [])=_;simp only[Q5,qc0,h2];rw[bfD (n5 (Qlb _))]
  |cons q s =>
   refine⟨2,?_,rfl,_,rfl⟩;show Q6 Stp.next Stp.exit Stp.fail P (qc0 x l.length (q::s))=_;simp only[Q6,qc0,h2];rw[bfD (n5 (Qlb _))]
noncomputable def pe3(a l:List V3)(j:Nat)(o:List V3):w9:=match o with
 |[]=>⟨0,l,a,(j:Int),0,[],[]⟩
 |q::o=>⟨1,l,a,(j:Int),(q::o).length,bL tV (q::o),Pb1 (q::o)⟩
theorem kg6(a l:List V3)(ha:a.length<=48)(hl:l.length<=48):∃t s,lp (ra7 ⟨(a.length:Int)⟩) (pe3 a l 0 [])=(t,s)/\(t=phV (Ma5 a l)+1/\∃j,s=pe3 a l j (Ma5 a l)):=by
 refine P5 (step:=ra7 ⟨(a.length:Int)⟩) (mk:=pe3 a l) a.length (λj s=>j<=a.length/\s=(a.take j).foldl (Cb8 l) []) (λt s=>t=phV (Ma5 a l)+1/\∃j,s=pe3 a l j (Ma5 a l)) (by omega)
  (λj s hj hi=>?_) (λj s hj hi=>?_) 0 [] ⟨Qlf _,by simp⟩
 ·obtain⟨_,hi⟩:=hi;have hlen:s.length<=1000000:=by
   have h1:=kd6 l (a.take j) [];rw[<- hi] at h1;have h2:=List.length_take_le j a;have h3:(a.take j).length*l.length<=48*48:=Nat.mul_le_mul (by omega) hl
   simp only[List.length_nil] at h1;omega
  have hn:=m9 hj (show a.length<=4611686018427387904 by omega)
  have hb:inB (j:Int) a.length=true:=f9 hj;have hT:(a.take (j+1)).foldl (Cb8 l) []=Cb8 l s (gL tV a j):=by
   rw[Gb2 tV hj,List.foldl_append,<- hi];rfl
  have hnext:∀{s':w9},s'=pe3 a l (j+1) (Cb8 l s (gL tV a j))->Nx (.next s') (λt=>t=phV (Ma5 a l)+1/\∃j',pe3 a l j s=pe3 a l j' (Ma5 a l)) (λs'=>∃o',s'=pe3 a l (j+1) o'/\(j+1<=a.length/\o'=(a.take (j+1)).foldl (Cb8 l) [])):=λ{s'} hs=>.nx ⟨_,hs,by omega,hT.symm⟩
  clear hi
  cases s with
  |nil =>
   obtain⟨t,s',k1,rfl,j',rfl⟩:=Ef6 (gL tV a j) l ⟨l,a,(a.length:Int),(j:Int),l,(l.length:Int),(gL tV a j).x,(gL tV a j).y,(gL tV a j).z⟩ rfl rfl hl [] (by simp) (λ_=>⟨rfl,rfl,rfl⟩)
   have k1:lp (O5 ⟨l,a,(a.length:Int),(j:Int),l,(l.length:Int),(gL tV a j).x,(gL tV a j).y,(gL tV a j).z⟩) ⟨0,0,0,[],[],0,0,0⟩=_:=k1;show Nx (Q7 Stp.next Stp.exit Stp.fail ⟨(a.length:Int)⟩ ⟨0,l,a,(j:Int),0,[],[]⟩) _ _;simp only[Q7,i9,i6,Int.toNat_natCast,hn,hb,k1];rw[btD (i8 hj)];cases hr:Cb8 l [] (gL tV a j) with
   |nil=>exact hnext (by rw[hr];rfl)
   |cons q o=>exact hnext (by rw[hr];rfl)
  |cons q s =>
   obtain⟨t,s',k1,rfl,j',rfl⟩:=Ef6 (gL tV a j) l ⟨l,a,(a.length:Int),(j:Int),l,(l.length:Int),0,0,0⟩ rfl rfl hl (q::s) hlen (λh=>by cases h)
   have k1:lp (O5 ⟨l,a,(a.length:Int),(j:Int),l,(l.length:Int),0,0,0⟩) ⟨1,0,(q::s).length,bL tV (q::s),Pb1 (q::s),(gL tV a j).x,(gL tV a j).y,(gL tV a j).z⟩=_:=k1;show Nx (Q8 Stp.next Stp.exit Stp.fail ⟨(a.length:Int)⟩ ⟨1,l,a,(j:Int),(q::s).length,bL tV (q::s),Pb1 (q::s)⟩) _ _;simp only[Q8,i9,i6,Int.toNat_natCast,hn,hb,k1];rw[btD (i8 hj)];cases hr:Cb8 l (q::s) (gL tV a j) with
   |nil=>exact hnext (by rw[hr];rfl)
   |cons q' o=>exact hnext (by rw[hr];rfl)
 ·obtain⟨hje,hi⟩:=hi;have hje:j=a.length:=by omega
  subst hje;have hO:s=Ma5 a l:=by rw[hi,Qlak];rfl
  rw[<- hO];cases s with
  |nil =>
   refine⟨1,?_,rfl,_,rfl⟩;show Q7 Stp.next Stp.exit Stp.fail ⟨(a.length:Int)⟩ ⟨0,l,a,(a.length:Int),0,[],[]⟩=_;simp only[Q7];rw[bfD (n5 (Qlb _))]
  |cons q s =>
   refine⟨2,?_,rfl,_,rfl⟩;show Q8 Stp.next Stp.exit Stp.fail ⟨(a.length:Int)⟩ ⟨1,l,a,(a.length:Int),(q::s).length,bL tV (q::s),Pb1 (q::s)⟩=_;simp only[Q8];rw[bfD (n5 (Qlb _))]
noncomputable def ad2(a l:List V3):List V3×Int:=if 48<a.length\/48<l.length then ([],2) else Zc3 (Ma5 a l)
theorem Ef7(l:List V3)(n:Int):(two (r1L tV) r1I).rd (.tup [eL tV l,i n],[])=some (l,n):=by
 have h:(r1L tV).rd [] (eL tV l)=some l:=Ce9 tV l;simp only[two,h];rfl
theorem wg4(m n:Nat):decide ((if (n:Int)>(m:Int) then (n:Int) else (m:Int))>48)=decide (48<m\/48<n):=by
 rw[decide_eq_decide]
 split<;>omega
theorem ag6(a l:List V3):∃x,fc7 a l=some x/\(two (r1L tV) r1I).rd x=some (ad2 a l):=by
 unfold fc7 ad2;rw[wg4];by_cases h:48<a.length\/48<l.length
 ·rw[decide_eq_true h,if_pos h];exact⟨_,rfl,rfl⟩
 ·rw[decide_eq_false h,if_neg h];obtain⟨t,s,k1,rfl,j,rfl⟩:=kg6 a l (by omega) (by omega)
  have k1:lp (ra7 ⟨(a.length:Int)⟩) ⟨0,l,a,0,0,[],[]⟩=_:=k1;unfold Cb4 ua4;simp only[i9,i6,k1,wg2.1,wg2.2];have hlen:(Ma5 a l).length<=900000:=by
   have h1:=Ef5 a l;have h3:a.length*l.length<=48*48:=Nat.mul_le_mul (by omega) (by omega)
   omega
  cases hr:Ma5 a l with
  |nil=>exact⟨_,rfl,Ef7 _ _⟩
  |cons q o =>
   rw[hr] at hlen;have hg:cb2 (q::o)=true:=decide_eq_true ⟨by simp,hlen⟩
   have e1:slR tV (bL tV (q::o)) 0 (q::o).length=q::o:=gb6 tV _;have e2:okS tV (bL tV (q::o)) 0 (q::o).length=true:=nb7 tV _;simp only[pe3,phV];refine⟨(.tup [eL tV (Zc3 (q::o)).1,i (Zc3 (q::o)).2],[]),?_,Ef7 _ _⟩;show sl (okS tV (bL tV (q::o)) 0 (q::o).length) (sl (cb2 (slR tV (bL tV (q::o)) 0 (q::o).length)) (some (b7.tup [eL tV (cb1 (slR tV (bL tV (q::o)) 0 (q::o).length)).1,i (cb1 (slR tV (bL tV (q::o)) 0 (q::o).length)).2],[])) none) none=_;rw[e1,e2,hg];rfl
theorem wg5(a l:List V3):Hb7 a l=ad2 a l:=by obtain⟨x,h,k⟩:=ag6 a l;unfold Hb7;rw[h];exact ua3 _ k
theorem wg6(a l:List V3):Hb8 a l=true:=by obtain⟨x,h,k⟩:=ag6 a l;unfold Hb8;rw[h];exact Ia0 _ k
def rch(n e:V3):Int:=(n.x.natAbs:Int)*e.x+(n.y.natAbs:Int)*e.y+(n.z.natAbs:Int)*e.z
def Kc0(e:V3):Bool:=(decide (0<=e.x)&&decide (e.x<=12))&&((decide (0<=e.y)&&decide (e.y<=12))&&(decide (0<=e.z)&&decide (e.z<=12)))
def pq(e:V3)(s:Int)(p:Pln):Pln:=⟨p.n,p.b+s*rch p.n e⟩
def okq(e:V3)(s:Int)(p:Pln):Bool:=okp p&&smb 2097152 (p.b+s*rch p.n e)
def gc0(c:List Pln)(e:V3)(s:Int):List Pln×Bool:=if (Kc0 e&&c.all (okq e s))=true then (c.map (pq e s),true) else ([],false)
structure B12(e:V3):Prop where
 x1:0<=e.x
 x2:e.x<=12
 y1:0<=e.y
 y2:e.y<=12
 z1:0<=e.z
 z2:e.z<=12
theorem kd7(e:V3):Kc0 e=true↔B12 e:=by
 unfold Kc0;simp only[Qlg,decide_eq_true_eq];exact⟨λ⟨⟨a,b⟩,⟨c,d⟩,f,g⟩=>⟨a,b,c,d,f,g⟩,λ⟨a,b,c,d,f,g⟩=>⟨⟨a,b⟩,⟨c,d⟩,f,g⟩⟩
theorem de7{n e:Int}(hn:Sm 4608 n)(h0:0<=e)(h1:e<=12):0<=(n.natAbs:Int)*e/\(n.natAbs:Int)*e<=55296:=by
 have a:(n.natAbs:Int)<=4608:=by have:=hn.1;have:=hn.2;omega
 refine⟨Int.mul_nonneg (by omega) h0,?_⟩
 have:=Int.mul_le_mul a h1 h0 (by omega)
 omega
theorem kd8{p:Pln}(hp:okp p=true){e:V3}(he:B12 e):0<=rch p.n e/\rch p.n e<=165888:=by
 have hb:=lb6 hp;have h1:=de7 ⟨hb.x1,hb.x2⟩ he.x1 he.x2;have h2:=de7 ⟨hb.y1,hb.y2⟩ he.y1 he.y2;have h3:=de7 ⟨hb.z1,hb.z2⟩ he.z1 he.z2;unfold rch;omega
theorem smL{n x:Int}(h1:-n<=x)(h2:x<=n)(hn:n<=1000000000000000000):Sm 1000000000000000000 x:=⟨by omega,by omega⟩
theorem Ge6{p:Pln}(hp:okp p=true){e:V3}(he:B12 e):Za3 p.n e=rch p.n e:=by
 have hb:=lb6 hp;have h1:=de7 ⟨hb.x1,hb.x2⟩ he.x1 he.x2;have h2:=de7 ⟨hb.y1,hb.y2⟩ he.y1 he.y2;have h3:=de7 ⟨hb.z1,hb.z2⟩ he.z1 he.z2;unfold Za3;rw[Ub5 (smL hb.x1 hb.x2 (by omega)),Ub5 (smL hb.y1 hb.y2 (by omega)),Ub5 (smL hb.z1 hb.z2 (by omega))]
 simp only
 rw[E4 (n:=(p.n.x.natAbs:Int)*e.x) (by omega) (by omega),E4 (n:=(p.n.y.natAbs:Int)*e.y) (by omega) (by omega),E4 (n:=(p.n.z.natAbs:Int)*e.z) (by omega) (by omega),
  E4 (n:=(p.n.x.natAbs:Int)*e.x+(p.n.y.natAbs:Int)*e.y) (by omega) (by omega),E4 (by omega) (by omega)]
 rfl
noncomputable def Se2(p:Pln)(y:Int):Pln×Bool:=if (okp p&&(smb 4194304 y&&smb 2097152 (W (p.b+y))))=true then (⟨p.n,W (p.b+y)⟩,true) else (⟨⟨0,0,0⟩,0⟩,false)
theorem Ef8(p:Pln)(y:Int):∃x,lb3 p y=some x/\(two r1P r1B).rd x=some (Se2 p y):=by
 have e1:S1 4194304 [y]=smb 4194304 y:=by rw[ec9 _ _ (by omega) (by simp)];simp
 have e2:S3 4194304 [y]=true:=fc0 _ _ (by omega) (by simp)
 have e3:S1 2097152 [W (p.b+y)]=smb 2097152 (W (p.b+y)):=by rw[ec9 _ _ (by omega) (by simp)];simp
 have e4:S3 2097152 [W (p.b+y)]=true:=fc0 _ _ (by omega) (by simp)
 unfold lb3 Se2;simp only[me0,me1,e1,e2,e3,e4];cases okp p
 ·exact⟨_,rfl,rfl⟩
 ·cases smb 4194304 y
  ·exact⟨_,rfl,rfl⟩
  ·cases smb 2097152 (W (p.b+y))<;>exact⟨_,rfl,rfl⟩
theorem pe4(p:Pln)(y:Int):Ea5 p y=Se2 p y:=by
 obtain⟨x,h,k⟩:=Ef8 p y;unfold Ea5;rw[h];exact ua3 _ k
theorem pe5(p:Pln)(y:Int):Ea6 p y=true:=by
 obtain⟨x,h,k⟩:=Ef8 p y;unfold Ea6;rw[h];exact Ia0 _ k
theorem ag7{p:Pln}(hp:okp p=true)(b':Int):okp ⟨p.n,b'⟩=smb 2097152 b':=by
 unfold okp at hp ⊢;rw[Qlg,Qlg] at hp;rw[hp.1,hp.2.1];simp
theorem Ef9{e:V3}(he:B12 e){s y:Int}(hs:s=1\/s=-1){p:Pln}(hy:okp p=true->y=s*rch p.n e):Se2 p y=if okq e s p=true then (pq e s p,true) else (⟨⟨0,0,0⟩,0⟩,false):=by
 unfold Se2 okq pq;cases hp:okp p
 ·rfl
 ·have hr:=kd8 hp he;have hb:=lb6 hp;have e1:=hy hp;subst e1;have hm:-165888<=s*rch p.n e/\s*rch p.n e<=165888:=by
   rcases hs with rfl|rfl<;>omega
  have h1:smb 4194304 (s*rch p.n e)=true:=(Ta6 _ _).2 ⟨by omega,by omega⟩
  have hb1:=hb.b1;have hb2:=hb.b2;rw[h1,E4 (by omega) (by omega)]
  rfl
theorem Ge7(e:V3):wa8 e=some (b (Kc0 e),[]):=by
 have hs:lp (O4 ⟨e.x,e.y,e.z⟩) ⟨0⟩=(if Kc0 e then 2 else 1,(lp (O4 ⟨e.x,e.y,e.z⟩) ⟨0⟩).2):=by
  refine Prod.ext ?_ rfl;have h:=kb8 (step:=O4 ⟨e.x,e.y,e.z⟩) (mk:=λj=>(⟨(j:Int)⟩:E5)) (c:=λn=>decide (n<0)||decide (n>12)) (u:=1) (fin:=2) tI [e.x,e.y,e.z] (by simp)
   (λj hj=>by
    have hj:j<3:=hj;have hc:j=0\/j=1\/j=2:=by omega
    have hw:W ((j:Int)+1)=((j+1:Nat):Int):=m9 hj (by omega)
    simp only[O4,da2,Int.toNat_natCast,hw];rw[btD (show (j:Int)<3 by omega),bt (f9 hj)]
    rcases hc with rfl|rfl|rfl
    ·show sl true (sl (decide (e.x<0)) _ (sl (decide (e.x>12)) _ _)) _=sl (decide (e.x<0)||decide (e.x>12)) _ _
     cases decide (e.x<0)<;>cases decide (e.x>12)<;>rfl
    ·show sl true (sl (decide (e.y<0)) _ (sl (decide (e.y>12)) _ _)) _=sl (decide (e.y<0)||decide (e.y>12)) _ _
     cases decide (e.y<0)<;>cases decide (e.y>12)<;>rfl
    ·show sl true (sl (decide (e.z<0)) _ (sl (decide (e.z>12)) _ _)) _=sl (decide (e.z<0)||decide (e.z>12)) _ _
     cases decide (e.z<0)<;>cases decide (e.z>12)<;>rfl)
   (by simp only[O4,da2];rw[bfD (by show ¬ ((3:Nat):Int)<3;omega)]) 0 (Qlf _)
  rw[Qlk] at h;rw[show (⟨0⟩:E5)=⟨((0:Nat):Int)⟩ from rfl,h]
  have hq:∀n:Int,(decide (n<0)||decide (n>12))=!(decide (0<=n)&&decide (n<=12)):=λn=>by
   by_cases h1:n<0<;>by_cases h2:n>12<;>simp[h1,h2]<;>omega
  simp only[List.any_cons,List.any_nil,Bool.or_false,hq];unfold Kc0;cases (decide (0<=e.x)&&decide (e.x<=12))<;>cases (decide (0<=e.y)&&decide (e.y<=12))<;>cases (decide (0<=e.z)&&decide (e.z<=12))<;>rfl
 unfold wa8;rw[hs];cases Kc0 e<;>rfl
theorem Ge8(e:V3):wa9 e=Kc0 e:=by unfold wa9;rw[Ge7];rfl
theorem Ge9(e:V3):xa0 e=true:=by unfold xa0;rw[Ge7];rfl
end Go.Ev.Ce
