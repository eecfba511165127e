/- Own work: a part of the proof. -/
import Derived.Test.YtlccibobknidjaaGreatEvEE
import Derived.Test.YtlccibobknidjaaGreatEvSp3
import Derived.ChangeStays
import Derived.ChangeSame
import Derived.OpenShut
import Derived.RowKit
import Derived.Test.YtlccibobknidjaaGreatEvD4
set_option linter.unusedVariables false
set_option linter.unusedSimpArgs false
set_option linter.unnecessarySimpa false
set_option linter.unusedSectionVars false
namespace Go.Ev.Ce
open Go Go.Ev Go.Ev.L Go.Proofs
noncomputable def onc (X:List Pt) (p:Pln):Nat:=X.countP fun x=>rm p x==0
noncomputable def keep (X:List Pt) (p:Pln):Bool:=!decide ((onc X p:Int) < 3)
theorem Ec6 (p:Pln) (X:List Pt) (hX:X.length≤1000000000):ha8 ⟨p.n.x,p.n.y,p.n.z,p.b,X⟩=⟨1,!keep X p,X⟩:=by
 have h:=Vb9 (step:=la3 ⟨X,(X.length:Int),X,p.n.x,p.n.y,p.n.z,p.b⟩) (mk:=fun j (n:Nat)=>(⟨(n:Int),(j:Int)⟩:L2)) (f:=fun n x=>if rm p x==0 then n+1 else n) (fin:=1) tX X (fun j n=>n≤j) hX
  (fun j n hj hi=>by
   have hW:W ((n:Int)+1)=((n+1:Nat):Int):=by rw[Da8 (by omega) (by omega)];omega
   refine⟨?_,by show (if rm p (gL tX X j)==0 then n+1 else n)≤j+1;split<;>omega⟩
   simp only[la3,ga5,Int.toNat_natCast,Xc4,hW,q8 hj (show X.length≤4611686018427387904 by omega)]
   rw[btD (p4 hj),bt (g9 hj)]
   cases rm p (gL tX X j)==0<;>rfl)
  (fun n _=>by simp only[la3,ga5];rw[bfD (Y2 (Nat.lt_irrefl _))]) 0 (Nat.zero_le _) 0 (Nat.le_refl _)
 have h:=h.1
 have e:∀ (l:List Pt) (n:Nat),l.foldl (fun n x=>if rm p x==0 then n+1 else n) n=n+l.countP fun x=>rm p x==0:=by
  intro l
  induction l with
  | nil=>intro n;rfl
  | cons x l ih =>
   intro n
   rw[List.foldl_cons,ih,List.countP_cons]
   split<;>omega
 rw[List.drop_zero,e,Nat.zero_add] at h
 unfold ha8 ra3 keep onc
 simp only[n5,o7]
 rw[show (⟨0,0⟩:L2)=⟨((0:Nat):Int),((0:Nat):Int)⟩ from rfl,h]
 show ra2.mk 1 (decide _) X=ra2.mk 1 (!(!(decide _))) X
 rw[Bool.not_not]
theorem de3 (l:List Pln) (X:List Pt) (hl:l.length≤1000000000) (hX:X.length≤1000000000):Q9 ⟨l.length,bL tP l,X⟩=⟨1,if l.any (fun p=>!keep X p) then ((l.findIdx (fun p=>!keep X p):Nat):Int) else -1,X⟩:=by
 have h:=jb7 (step:=E2 ⟨l.length,(l.length:Int),bL tP l⟩) (mk:=fun j=>(⟨(j:Int),X⟩:o5)) (c:=fun p=>!keep X p) (u:=1) (fin:=2) tP l hl
  (fun j hj=>by
   simp only[E2,B8,Int.toNat_natCast,n5,o7,bc3 hj,Kb2 hj,Ec6 _ _ hX,q8 hj (show l.length≤4611686018427387904 by omega)]
   rw[btD (p4 hj),bt (g9 hj)]
   rfl)
  (by simp only[E2,B8];rw[bfD (Y2 (Nat.lt_irrefl _))]) 0 (Nat.zero_le _)
 rw[List.drop_zero] at h
 unfold Q9 C8
 simp only[n5,o7]
 rw[show (⟨0,X⟩:o5)=⟨((0:Nat):Int),X⟩ from rfl,h]
 cases ha:l.any fun p=>!keep X p with
 | false=>rfl
 | true =>
  have hf:l.findIdx (fun p=>!keep X p) < l.length:=by
   rw[List.any_eq_true] at ha
   obtain⟨p,hp,hc⟩:=ha
   exact List.findIdx_lt_length_of_exists ⟨p,hp,hc⟩
  simp only[if_true,Nat.zero_add,Int.toNat_natCast,Kb2 hf,Ec6 _ _ hX,n5]
  rfl
theorem cc2 {α:Type} (c:α→Bool):∀ l:List α,(l.take (l.findIdx c)).filter (fun x=>!c x)=l.take (l.findIdx c)
 | []=>rfl
 | x::l=>by
  rw[List.findIdx_cons]
  cases h:c x with
  | true=>rfl
  | false =>
   simp only[cond_false,List.take_succ_cons,List.filter_cons,h,Bool.not_false,if_true]
   rw[cc2 c l]
theorem wd4 {α:Type} (l:List α) (j:Nat) (h:j < l.length):l.take (j+1)=l.take j++[l[j]]:=by rw[List.take_succ_eq_append_getElem h]
theorem bd1 {α:Type} (t:Ty α) {l:List α} {j:Nat} (h:j < l.length):l.take (j+1)=l.take j++[gL t l j]:=by rw[wd4 l j h,Pa0 t h]
theorem jc0 {α:Type} (t:Ty α) {l r:List α} {j:Nat} (h:l.drop j=r.drop j):gL t l j=gL t r j:=by
 have h1:=Zb7 t l j 0
 have h2:=Zb7 t r j 0
 rw[Nat.add_zero] at h1 h2
 rw[← h1,← h2,h]
theorem cc3 {α:Type} {l r:List α} {j:Nat} (h:l.drop j=r.drop j) (k:Nat):l.drop (j+k)=r.drop (j+k):=by rw[← List.drop_drop,← List.drop_drop,h]
structure Del (l:List Pln) (f:Pln→Bool) (cur:List Pln) (m j:Nat):Prop where
 len:cur.length=l.length
 t:cur.take m=(l.take j).filter f
 d:cur.drop j=l.drop j
 le:m≤j
 lm:m≤l.length
theorem od9 (l : List Pln) (X : List Pt) (hl : l.length ≤ 1000000000) (hX : X.length ≤ 1000000000) (m j : Nat) (cur : List Pln) (hd : Del l (keep X) cur m j) :
  ∃ t s,lp (A0 ⟨l.length⟩) ⟨(m:Int),(j:Int),bL tP cur,X⟩=(t,s)∧(t=1∧∃ m' cur' k,s=⟨((m':Nat):Int),((k:Nat):Int),bL tP cur',X⟩∧Del l (keep X) cur' m' k∧l.length≤k):=by
 refine Da1 (step:=A0 ⟨l.length⟩) (mk:=fun j (x:Nat×List Pln)=>(⟨(x.1:Int),(j:Int),bL tP x.2,X⟩:p8)) l.length (fun j x=>Del l (keep X) x.2 x.1 j) (fun t s=>t=1∧∃ m' cur' k,s=⟨((m':Nat):Int),((k:Nat):Int),bL tP cur',X⟩∧Del l (keep X) cur' m' k∧l.length≤k) hl (fun j x hj hx=>?_) (fun j x hj hx=>?_) j (m,cur) hd
 ·obtain⟨m,cur⟩:=x
  obtain⟨h1,h2,h3,h4,h5⟩:=hx
  simp only at h1 h2 h3 h4 h5
  have hjc:j < cur.length:=by omega
  have hmc:m < cur.length:=by omega
  have hg:gL tP cur j=gL tP l j:=jc0 tP h3
  have hWm:W ((m:Int)+1)=((m+1:Nat):Int):=by rw[Da8 (by omega) (by omega)];omega
  have hb:Nat.blt m cur.length=true:=by rw[Nat.blt_eq];exact hmc
  have hrow:d9 (bL tP cur) m=tP.row (gL tP cur m):=S5 tP hmc
  have sp:∀ (v:Pln) (x1 x2 x3 x4:Int),J5 (tP.row v) 0 [i x1,i x2,i x3,i x4]=tP.row ⟨⟨x1,x2,x3⟩,x4⟩:=fun _ _ _ _ _=>rfl
  have rl:∀ v:Pln,Nat.ble (0+4) (len (tP.row v))=true:=fun _=>rfl
  simp only[A0,B9,Int.toNat_natCast,n5,o7,bc3 hjc,Kb2 hjc,Ec6 _ _ hX,q8 hj (show l.length≤4611686018427387904 by omega),hWm]
  rw[btD (p4 hj),bt (g9 hj)]
  simp only[Nat.zero_add,hrow,J8,hb,sp,ob9,g9 (show m < l.length by omega),hg]
  have ht:=bd1 tP hj
  have hd1:cur.drop (j+1)=l.drop (j+1):=cc3 h3 1
  cases hk:keep X (gL tP l j) with
  | true =>
   refine .nx ⟨(m+1,cur.set m (gL tP l j)),rfl,⟨by rw[List.length_set];exact h1,?_,?_,by omega,by show m+1≤l.length;omega⟩⟩
   ·show (cur.set m (gL tP l j)).take (m+1)=_
    rw[ht,List.filter_append,List.take_succ_eq_append_getElem (by rw[List.length_set];exact hmc),List.getElem_set_self,List.take_set_of_le (Nat.le_refl _),h2,List.filter_cons,hk,if_pos rfl,List.filter_nil]
   ·show (cur.set m (gL tP l j)).drop (j+1)=_
    rw[List.drop_set_of_lt (by omega),hd1]
  | false =>
   refine .nx ⟨(m,cur),rfl,⟨h1,?_,hd1,by omega,h5⟩⟩
   show cur.take m=_
   rw[ht,List.filter_append,h2,List.filter_cons,hk,if_neg (by simp),List.filter_nil,List.append_nil]
 ·obtain⟨m,cur⟩:=x
  refine⟨1,?_,rfl,m,cur,j,rfl,hx,hj⟩
  simp only[A0,B9]
  rw[bfD (by omega)]
theorem Bd9 (l:List Pln) (n:Nat):D3 (bL tP l) n=bL tP (l.take n):=by unfold bL;rw[D4,m9,m9,List.map_take]
theorem bd2 (l:List Pln) (n:Nat):d8 (bL tP l) n=bL tP (l.drop n):=by unfold bL;rw[D5,m9,m9,List.map_drop]
theorem Cd0 (n:Nat):List.replicate n [i 0,i 0,i 0,i 0]=bL tP (List.replicate n ⟨⟨0,0,0⟩,0⟩):=by unfold bL;rw[m9,List.map_replicate];rfl
theorem Id3 (l : List Pln) (X : List Pt) (hl : l.length ≤ 1000000000) (hX : X.length ≤ 1000000000) :
  ∃ m r,R4 ⟨l.length,bL tP l,X⟩=⟨1,m,bL tP r,X⟩∧m≤r.length∧r.take m=l.filter (keep X)∧r.length=l.length:=by
 unfold R4 C9
 simp only[n5,o7,de3 l X hl hX]
 cases ha:l.any fun p=>!keep X p with
 | false =>
  refine⟨l.length,l,rfl,Nat.le_refl _,?_,rfl⟩
  rw[List.take_length]
  symm
  rw[List.filter_eq_self]
  intro p hp
  have:=List.any_eq_false.1 ha p hp
  simpa using this
 | true =>
  have hf:l.findIdx (fun p=>!keep X p) < l.length:=by
   rw[List.any_eq_true] at ha
   obtain⟨p,hp,hc⟩:=ha
   exact List.findIdx_lt_length_of_exists ⟨p,hp,hc⟩
  have hk:keep X (gL tP l (l.findIdx fun p=>!keep X p))=false:=by
   have:=List.findIdx_getElem (xs:=l) (p:=fun p=>!keep X p) (w:=hf)
   rw[Pa0 tP hf]
   simpa using this
  have ht:=cc2 (fun p=>!keep X p) l
  simp only[Bool.not_not] at ht
  generalize hF:l.findIdx (fun p=>!keep X p)=F at *
  have hW:W ((F:Int)+1)=((F+1:Nat):Int):=q8 hf (by omega)
  have hne:((F:Int)==-1)=false:=by rw[beq_eq_false_iff_ne];omega
  obtain⟨t,s,e1,rfl,m,cur,k,e2,e3,e4⟩:=od9 l X hl hX F (F+1) l ⟨rfl,by rw[bd1 tP hf,List.filter_append,ht,List.filter_cons,hk,if_neg (by simp),List.filter_nil,List.append_nil],rfl,by omega,by omega⟩
  have hm:m≤l.length:=e3.lm
  have hin:inB (m:Int) (l.length+1)=true:=g9 (by omega)
  have hfin:cur.take m=l.filter (keep X):=by rw[e3.t,List.take_of_length_le e4]
  simp only[if_true,hW,hne,e1,e2,Int.toNat_natCast,hin,Nat.zero_add,Nat.sub_zero]
  refine⟨m,cur.take m++(List.replicate (l.length - m) ⟨⟨0,0,0⟩,0⟩++cur.drop (m+(l.length - m))),?_,?_,?_,?_⟩
  ·rw[Bd9,Cd0,bd2,Da7,Da7]
   rfl
  ·rw[List.length_append,List.length_append,List.length_take,List.length_replicate,e3.len];omega
  ·rw[List.take_append_of_le_length (by rw[List.length_take,e3.len];omega),List.take_take,Nat.min_self,hfin]
  ·rw[List.length_append,List.length_append,List.length_take,List.length_replicate,List.length_drop,e3.len];omega
def eqP (x y:Pln):Bool:=x.n.x==y.n.x&&(x.n.y==y.n.y&&(x.n.z==y.n.z&&(x.b==y.b&&true)))
theorem de4 (x y:Pln):eqP x y=true↔x=y:=by
 unfold eqP
 simp only[Bool.and_true,Bool.and_eq_true,beq_iff_eq]
 refine⟨fun⟨h1,h2,h3,h4⟩=>?_,fun h=>by subst h;exact⟨rfl,rfl,rfl,rfl⟩⟩
 obtain⟨⟨x1,x2,x3⟩,x4⟩:=x
 obtain⟨⟨y1,y2,y3⟩,y4⟩:=y
 simp only at h1 h2 h3 h4
 subst h1 h2 h3 h4
 rfl
def ddF:Pln→List Pln→List Pln
 | _,[]=>[]
 | a,x::l=>if eqP x a then ddF x l else x::ddF x l
def dd:List Pln→List Pln
 | []=>[]
 | x::l=>x::ddF x l
structure Cmp (l:List Pln) (n:Nat) (cur:List Pln) (m j:Nat) (R:List Pln):Prop where
 len:cur.length=l.length
 t:cur.take m++ddF (gL tP l (j - 1)) ((l.take n).drop j)=R
 d:cur.drop (j - 1)=l.drop (j - 1)
 le:m+1≤j
theorem bd3 (l : List Pln) (n o : Nat) (hn : n ≤ l.length) (hl : l.length ≤ 1000000000) (ho : o < n) (m : Nat) (cur : List Pln) (R : List Pln) (hd : Cmp l n cur m (o + 1) R) :
  ∃ t s,lp (p7 ⟨n,0+o,n - o⟩) ⟨(m:Int),((1:Nat):Int),bL tP cur⟩=(t,s)∧(t=1∧∃ m' cur' k,s=⟨((m':Nat):Int),k,bL tP cur'⟩∧cur'.length=l.length∧cur'.take m'=R∧m'≤n):=by
 refine Da1 (step:=p7 ⟨n,0+o,n - o⟩) (mk:=fun j (x:Nat×List Pln)=>(⟨(x.1:Int),(j:Int),bL tP x.2⟩:o9)) (n - o) (fun j x=>Cmp l n x.2 x.1 (o+j) R∧1≤j∧x.1≤n) (fun t s=>t=1∧∃ m' cur' k,s=⟨((m':Nat):Int),k,bL tP cur'⟩∧cur'.length=l.length∧cur'.take m'=R∧m'≤n) (by omega) (fun j x hj hx=>?_) (fun j x hj hx=>?_) 1 (m,cur) ⟨hd,Nat.le_refl _,by have:=hd.le;show m≤n;omega⟩
 ·obtain⟨m,cur⟩:=x
  obtain⟨⟨h1,h2,h3,h4⟩,hj1,hmn⟩:=hx
  simp only at h1 h2 h3 h4 hmn
  have hoj:o+j < n:=by omega
  have hjc:o+j < cur.length:=by omega
  have hjc':o+(j - 1) < cur.length:=by omega
  have hmc:m < cur.length:=by omega
  have hg':gL tP cur (o+(j - 1))=gL tP l (o+j - 1):=by rw[show o+(j - 1)=o+j - 1 by omega];exact jc0 tP h3
  have hd1:cur.drop (o+j)=l.drop (o+j):=by have:=cc3 h3 1;rw[show o+j - 1+1=o+j by omega] at this;exact this
  have hg:gL tP cur (o+j)=gL tP l (o+j):=jc0 tP hd1
  have hWm:W ((m:Int)+1)=((m+1:Nat):Int):=by rw[Da8 (by omega) (by omega)];omega
  have hWj:W ((j:Int) - 1)=((j - 1:Nat):Int):=by rw[Da8 (by omega) (by omega)];omega
  have hb:Nat.blt m cur.length=true:=by rw[Nat.blt_eq];exact hmc
  have hrow:d9 (bL tP cur) m=tP.row (gL tP cur m):=S5 tP hmc
  have sp:∀ (v:Pln) (x1 x2 x3 x4:Int),J5 (tP.row v) 0 [i x1,i x2,i x3,i x4]=tP.row ⟨⟨x1,x2,x3⟩,x4⟩:=fun _ _ _ _ _=>rfl
  have rl:∀ v:Pln,Nat.ble 4 (len (tP.row v))=true:=fun _=>rfl
  simp only[p7,H6,Int.toNat_natCast,Nat.zero_add,hWj,Uc5 tP hjc,Uc5 tP hjc',Uc4 tP hjc,Uc4 tP hjc',q8 hj (show n - o≤4611686018427387904 by omega),hWm,hg,hg',hrow,J8,hb,sp,rl,ob9,g9 (show m < n by omega)]
  rw[btD (p4 hj)]
  simp only[g9 hj,g9 (show j - 1 < n - o by omega),p6,Bool.and_self]
  rw[show ((gL tP l (o+j)).n.x==(gL tP l (o+j - 1)).n.x&&((gL tP l (o+j)).n.y==(gL tP l (o+j - 1)).n.y&&((gL tP l (o+j)).n.z==(gL tP l (o+j - 1)).n.z&&((gL tP l (o+j)).b==(gL tP l (o+j - 1)).b&&true))))=eqP (gL tP l (o+j)) (gL tP l (o+j - 1)) from rfl]
  have hcons:(l.take n).drop (o+j)=gL tP l (o+j)::(l.take n).drop (o+(j+1)):=by
   rw[List.drop_eq_getElem_cons (by rw[List.length_take];omega),List.getElem_take,Pa0 tP (by omega)]
   rfl
  rw[hcons] at h2
  have hlast:o+(j+1) - 1=o+j:=by omega
  unfold ddF at h2
  cases he:eqP (gL tP l (o+j)) (gL tP l (o+j - 1)) with
  | true =>
   rw[he] at h2
   simp only[if_true] at h2
   refine .nx ⟨(m,cur),rfl,⟨⟨h1,?_,?_,by show m+1≤o+(j+1);omega⟩,by omega,hmn⟩⟩
   ·rw[hlast];exact h2
   ·rw[hlast];exact hd1
  | false =>
   rw[he] at h2
   simp only[Bool.false_eq_true,if_false] at h2
   refine .nx ⟨(m+1,cur.set m (gL tP l (o+j))),rfl,⟨⟨by rw[List.length_set];exact h1,?_,?_,by show m+1+1≤o+(j+1);omega⟩,by omega,by show m+1≤n;omega⟩⟩
   ·rw[hlast]
    show (cur.set m (gL tP l (o+j))).take (m+1)++_=R
    rw[List.take_succ_eq_append_getElem (by rw[List.length_set];exact hmc),List.getElem_set_self,List.take_set_of_le (Nat.le_refl _),List.append_assoc]
    exact h2
   ·rw[hlast]
    show (cur.set m (gL tP l (o+j))).drop (o+j)=_
    rw[List.drop_set_of_lt (by omega),hd1]
 ·obtain⟨m,cur⟩:=x
  obtain⟨⟨h1,h2,h3,h4⟩,hj1,hmn⟩:=hx
  simp only at h1 h2 h3 h4 hmn
  refine⟨1,?_,rfl,m,cur,_,rfl,h1,?_,hmn⟩
  ·simp only[p7,H6]
   rw[bfD (by omega)]
  ·rw[List.drop_eq_nil_of_le (by rw[List.length_take];omega)] at h2
   unfold ddF at h2
   rw[List.append_nil] at h2
   exact h2
theorem wd5 (l : List Pln) (n : Nat) (hn : n ≤ l.length) (hl : l.length ≤ 1000000000) :
  ∃ m r,aa2 ⟨n,bL tP l⟩=⟨1,m,bL tP r⟩∧m≤r.length∧r.take m=dd (l.take n):=by
 unfold aa2 I7
 simp only
 by_cases h2:(n:Int) < 2
 ·rw[btD h2]
  refine⟨n,l,rfl,hn,?_⟩
  have:n=0∨n=1:=by omega
  rcases this with rfl | rfl
  ·rfl
  ·cases l with
   | nil=>rfl
   | cons x l=>rfl
 ·rw[bfD h2]
  have h1n:1≤n:=by omega
  have hI : ∀ j, j < n → 1 ≤ j → l.take j ++ ddF (gL tP l (j - 1)) ((l.take n).drop j) = dd (l.take n) →
    (eqP (gL tP l j) (gL tP l (j - 1))=true→Cmp l n l j (j+1) (dd (l.take n)))∧(eqP (gL tP l j) (gL tP l (j - 1))=false→l.take (j+1)++ddF (gL tP l (j+1 - 1)) ((l.take n).drop (j+1))=dd (l.take n)):=by
   intro j hj hj1 hR
   have hcons:(l.take n).drop j=gL tP l j::(l.take n).drop (j+1):=by
    rw[List.drop_eq_getElem_cons (by rw[List.length_take];omega),List.getElem_take,Pa0 tP (by omega)]
   rw[hcons] at hR
   unfold ddF at hR
   constructor
   ·intro he
    rw[he] at hR
    simp only[if_true] at hR
    exact⟨rfl,hR,rfl,Nat.le_refl _⟩
   ·intro he
    rw[he] at hR
    simp only[Bool.false_eq_true,if_false] at hR
    rw[bd1 tP (show j < l.length by omega),List.append_assoc]
    exact hR
  have inner:∀ k,k < n→1≤k→Cmp l n l k (k+1) (dd (l.take n))→∃ m' cur' k',lp (p7 ⟨n,0+k,n - k⟩) ⟨(k:Int),1,bL tP l⟩=(1,⟨((m':Nat):Int),k',bL tP cur'⟩)∧cur'.length=l.length∧cur'.take m'=dd (l.take n)∧m'≤n:=by
   intro k hk hk1 hc
   obtain⟨t,s,e1,rfl,m',cur',k',rfl,e2,e3,e4⟩:=bd3 l n k hn hl hk k l _ hc
   exact⟨m',cur',k',e1,e2,e3,e4⟩
  have key:=Da1 (step:=I9 ⟨n,bL tP l⟩) (mk:=fun j (_:Unit)=>(⟨(j:Int)⟩:q7)) n (fun j _=>1≤j∧j≤n∧l.take j++ddF (gL tP l (j - 1)) ((l.take n).drop j)=dd (l.take n))
   (fun t s=>(t=1∧∃ k:Nat,s=⟨(k:Int)⟩∧k < n∧1≤k∧Cmp l n l k (k+1) (dd (l.take n)))∨(t=2∧l.take n=dd (l.take n))) (by omega) (fun j x hj hx=>?_) (fun j x hj hx=>?_) 1 () ⟨Nat.le_refl _,h1n,by
    cases l with
    | nil=>simp only[List.length_nil] at hn;omega
    | cons x l =>
     cases n with
     | zero=>omega
     | succ n=>rfl⟩
  ·obtain⟨t,s,e1,e2⟩:=key
   rw[show (⟨1⟩:q7)=⟨((1:Nat):Int)⟩ from rfl,e1]
   rcases e2 with⟨rfl,k,rfl,hk,hk1,hc⟩ | ⟨rfl,he⟩
   ·obtain⟨m',cur',k',e2,e3,e4,e5⟩:=inner k hk hk1 hc
    simp only[Int.toNat_natCast,e2]
    simp only[Nat.zero_add,Nat.sub_zero]
    refine⟨m',cur'.take m'++(List.replicate (n - m') ⟨⟨0,0,0⟩,0⟩++cur'.drop (m'+(n - m'))),?_,?_,?_⟩
    ·rw[Bd9,Cd0,bd2,Da7,Da7]
     rfl
    ·rw[List.length_append,List.length_take,e3];omega
    ·rw[List.take_append_of_le_length (by rw[List.length_take,e3];omega),List.take_take,Nat.min_self,e4]
   ·exact⟨n,l,rfl,hn,he⟩
  ·obtain⟨hj1,hjn,hR⟩:=hx
   obtain⟨i1,i2⟩:=hI j hj hj1 hR
   have hWj:W ((j:Int) - 1)=((j - 1:Nat):Int):=by rw[Da8 (by omega) (by omega)];omega
   have hjl:j < l.length:=by omega
   have hjl':j - 1 < l.length:=by omega
   simp only[I9,H7,Int.toNat_natCast,hWj,bc3 hjl,bc3 hjl',Kb2 hjl,Kb2 hjl',q8 hj (show n≤4611686018427387904 by omega)]
   rw[btD (p4 hj),bt (g9 hj),bt (g9 (show j - 1 < n by omega)),bt (g9 (show j < n+1 by omega))]
   simp only[p6]
   rw[show ((gL tP l j).n.x==(gL tP l (j - 1)).n.x&&((gL tP l j).n.y==(gL tP l (j - 1)).n.y&&((gL tP l j).n.z==(gL tP l (j - 1)).n.z&&((gL tP l j).b==(gL tP l (j - 1)).b&&true))))=eqP (gL tP l j) (gL tP l (j - 1)) from rfl]
   cases he:eqP (gL tP l j) (gL tP l (j - 1)) with
   | false=>exact .nx ⟨(),rfl,by omega,by omega,i2 he⟩
   | true =>
    obtain⟨m',cur',k',e2,e3,e4,e5⟩:=inner j hj hj1 (i1 he)
    rw[e2]
    simp only[g9 (show m' < n+1 by omega)]
    exact .ex (.inl ⟨rfl,j,rfl,hj,hj1,i1 he⟩)
  ·obtain⟨hj1,hjn,hR⟩:=hx
   refine⟨2,?_,.inr ⟨rfl,?_⟩⟩
   ·simp only[I9,H7]
    rw[bfD (by omega)]
   ·have:j=n:=by omega
    subst this
    rw[List.drop_eq_nil_of_le (by rw[List.length_take];omega)] at hR
    unfold ddF at hR
    rw[List.append_nil] at hR
    exact hR
theorem Td5 (l:List Pln) (n:Nat) (hn:n≤l.length):slR tP (bL tP l) 0 n=l.take n:=vc8 tP (by rw[List.length_take];omega) fun k hk=>by
 rw[Nat.zero_add,S5 tP (by omega)]
 congr 1
 simp[gL,List.getD_eq_getElem?_getD,List.getElem?_take,hk]
theorem Td6 (l:List Pln) (n:Nat) (hn:n≤l.length):okS tP (bL tP l) 0 n=true:=lb2 tP (f:=fun k=>gL tP l k) fun k hk=>by rw[Nat.zero_add,S5 tP (by omega)]
noncomputable def lean (c:List Pln):List Pln:=if ful c then dd (xb8 (c.filter (keep (pts c)))) else []
theorem Cd1 (p:Pln) (c:List Pln) (hc:c.length≤1000000):Rd (one (r1L tP)) (Sa8 (p,c)) (fun r=>r=lean (p::c)):=by
 have hl:(p::c).length≤1000000000:=by simp only[List.length_cons];omega
 have hX:=rc8 (p::c)
 unfold Sa8 lean
 simp only[n5,I0,o7,qe4,qe5,Ac8 hl,Ac9 hl,Fb2 hl,Fb3 hl]
 cases hf:ful (p::c) with
 | false=>exact⟨_,[],rfl,rfl,rfl⟩
 | true =>
  have ec:k8 (fun k=>tP.row (gL tP (p::c) k)) (List.range (c.length+1))=bL tP (p::c):=Oa9 tP (p::c)
  have hcl:ga7 (p,c)=⟨1,(p::c).length,bL tP (p::c)⟩:=by
   unfold ga7 M2
   simp only[ec,J8]
   have z:Nat.beq (p::c).length 0=false:=rfl
   have r:Nat.ble ((0+(p::c).length)*32) room=true:=da3 (by simp only[List.length_cons];omega)
   rw[z,r,Nat.zero_add]
   rfl
  obtain⟨m,r,e1,e2,e3,e4⟩:=Id3 (p::c) (pts (p::c)) hl (by omega)
  have hm:m≤(p::c).length:=by
   have h1:=congrArg List.length e3
   have h2:=List.length_filter_le (keep (pts (p::c))) (p::c)
   rw[List.length_take] at h1
   omega
  have hs:(xb8 (r.take m)).length=m:=by rw[Rc3,List.length_take];omega
  have hrows:app (bL tP (xb8 (r.take m))) (d8 (bL tP r) m)=bL tP (xb8 (r.take m)++r.drop m):=by rw[bd2,Da7]
  have hok:okL tP (c.length+1) (fun k=>tP.row (gL tP (p::c) k))=true:=lb2 tP (f:=fun k=>gL tP (p::c) k) fun _ _=>rfl
  simp only[hcl,e1,Td5 r m e2,Td6 r m e2,hrows,hok]
  obtain⟨m2,r2,k1,k2,k3⟩:=wd5 (xb8 (r.take m)++r.drop m) m (by rw[List.length_append,hs];omega) (by rw[List.length_append,hs,List.length_drop,e4];omega)
  rw[k1,J8]
  have q1:Nat.ble m room=true:=by rw[Nat.ble_eq];unfold room;simp only[List.length_cons] at hm;omega
  have q2:Nat.ble m r.length=true:=by rw[Nat.ble_eq];exact e2
  rw[q1,q2]
  have hfin:r2.take m2=dd (xb8 ((p::c).filter (keep (pts (p::c))))):=by
   rw[k3,List.take_append_of_le_length (by rw[hs];omega),List.take_of_length_le (by rw[hs];omega),e3]
  exact Sd6 k2 rfl hfin
theorem oe1 (p:Pln) (c:List Pln) (hc:c.length≤1000000):Gb6 (p,c)=lean (p::c):=(Cd1 p c hc).p
theorem oe2 (p:Pln) (c:List Pln) (hc:c.length≤1000000):Gb7 (p,c)=true:=(Cd1 p c hc).g
end Go.Ev.Ce
namespace Go.Ev.Ce
open Go Go.Ev Go.Ev.L Go.Proofs Go.Sort
theorem wd6 (l:List Pln):List.Perm (xb8 l) l:=List.mergeSort_perm l _
theorem Id4 (x y z:Pln) (h1:(!ltOf ob2 y x)=true) (h2:(!ltOf ob2 z y)=true):(!ltOf ob2 z x)=true:=by
 simp only[Bool.not_eq_true',ab1,decide_eq_false_iff_not] at *
 unfold LtP at *
 omega
theorem Id5 (x y:Pln):((!ltOf ob2 y x)||!ltOf ob2 x y)=true:=by
 simp only[Bool.or_eq_true,Bool.not_eq_true',ab1,decide_eq_false_iff_not]
 unfold LtP
 omega
theorem bd4 (l:List Pln):(xb8 l).Pairwise fun x y=>(!ltOf ob2 y x)=true:=List.pairwise_mergeSort Id4 Id5 l
theorem bd5 {l r:List Pln} (hp:List.Perm r l) (hs:r.Pairwise fun x y=>(!ltOf ob2 y x)=true):xb8 l=r :=
 List.Perm.eq_of_pairwise (fun x y _ _ h1 h2=>xe4 x y (by simpa using h2) (by simpa using h1)) (bd4 l) hs ((wd6 l).trans hp.symm)
instance:DecidableEq Pln:=fun x y=>decidable_of_iff _ (de4 x y)
def U6:List Pln:=[⟨⟨1,0,0⟩,1⟩,⟨⟨-1,0,0⟩,0⟩,⟨⟨0,1,0⟩,1⟩,⟨⟨0,-1,0⟩,0⟩,⟨⟨0,0,1⟩,1⟩,⟨⟨0,0,-1⟩,0⟩]
def U8:List Pln:=[⟨⟨-1,0,0⟩,0⟩,⟨⟨0,1,0⟩,1⟩,⟨⟨0,-1,0⟩,0⟩,⟨⟨0,0,1⟩,1⟩,⟨⟨0,0,-1⟩,0⟩,⟨⟨1,0,0⟩,1⟩,⟨⟨1,1,1⟩,3⟩,⟨⟨1,0,0⟩,7⟩]
def C4:List Pln:=[⟨⟨-1,0,0⟩,0⟩,⟨⟨0,-1,0⟩,0⟩,⟨⟨0,0,-1⟩,0⟩,⟨⟨2,3,4⟩,1⟩]
def U7:List Pln:=[⟨⟨1,0,0⟩,1⟩,⟨⟨-1,0,0⟩,0⟩,⟨⟨0,1,0⟩,1⟩,⟨⟨0,-1,0⟩,0⟩,⟨⟨0,0,1⟩,1⟩,⟨⟨0,0,-1⟩,0⟩,⟨⟨-1,0,0⟩,-1⟩]
def LU:List Pln:=[⟨⟨-1,0,0⟩,0⟩,⟨⟨0,-1,0⟩,0⟩,⟨⟨0,0,-1⟩,0⟩,⟨⟨0,0,1⟩,1⟩,⟨⟨0,1,0⟩,1⟩,⟨⟨1,0,0⟩,1⟩]
def PU:List Pt:=[⟨1,1,1,1⟩,⟨1,1,0,1⟩,⟨1,0,1,1⟩,⟨1,0,0,1⟩,⟨0,1,1,1⟩,⟨0,1,0,1⟩,⟨0,0,1,1⟩,⟨0,0,0,1⟩]
def PC:List Pt:=[⟨0,0,0,1⟩,⟨0,0,1,4⟩,⟨0,1,0,3⟩,⟨1,0,0,2⟩]
theorem oe3:pts U6=PU:=by kernel_rfl
theorem oe4:pts C4=PC:=by kernel_rfl
theorem oe5:ful []=true:=by kernel_rfl
theorem oe6:ful U7=false:=by kernel_rfl
theorem oe7:has U6 ⟨1,0,0⟩=true:=by kernel_rfl
theorem oe8:has U6 ⟨2,0,0⟩=false:=by kernel_rfl
theorem xe8:bnd C4=(⟨0,0,0⟩,⟨1,1,1⟩,true):=by kernel_rfl
theorem xe9:apart U6 [⟨⟨-1,0,0⟩,-1⟩]=true:=by kernel_rfl
theorem ye0:apart U6 [⟨⟨-1,-1,0⟩,-1⟩]=false:=by kernel_rfl
theorem ye1:od5 U6 [⟨⟨1,1,1⟩,3⟩]=true:=by kernel_rfl
theorem ye2:od5 U6 [⟨⟨1,1,1⟩,2⟩]=false:=by kernel_rfl
theorem ye3:chk [⟨⟨0,0,0⟩,0⟩]=12:=by kernel_rfl
theorem ye4:(⟨⟨1,0,0⟩,1⟩::U8).filter (keep (pts (⟨⟨1,0,0⟩,1⟩::U8)))=[⟨⟨1,0,0⟩,1⟩,⟨⟨-1,0,0⟩,0⟩,⟨⟨0,1,0⟩,1⟩,⟨⟨0,-1,0⟩,0⟩,⟨⟨0,0,1⟩,1⟩,⟨⟨0,0,-1⟩,0⟩,⟨⟨1,0,0⟩,1⟩]:=by kernel_rfl
theorem oe9:ful (⟨⟨1,0,0⟩,1⟩::U8)=true:=by kernel_rfl
theorem pe0:lean (⟨⟨1,0,0⟩,1⟩::U8)=LU:=by
 unfold lean
 rw[oe9,if_pos rfl,ye4,bd5 (r:=[⟨⟨-1,0,0⟩,0⟩,⟨⟨0,-1,0⟩,0⟩,⟨⟨0,0,-1⟩,0⟩,⟨⟨0,0,1⟩,1⟩,⟨⟨0,1,0⟩,1⟩,⟨⟨1,0,0⟩,1⟩,⟨⟨1,0,0⟩,1⟩])]
 ·rfl
 ·exact List.isPerm_iff.1 (by kernel_rfl)
 ·exact of_decide_eq_true (by kernel_rfl)
theorem de5:wb6=⟨1,0,1,0,1,0⟩:=by kernel_rfl
theorem Rc8:wa3=some (b true,[]):=by
 have le:∀ {c:List Pln},c.length≤100→c.length≤1000000000:=fun h=>by omega
 have le':∀ {c:List Pln},c.length≤100→c.length≤100000000:=fun h=>by omega
 have u:U6.length≤100:=by decide
 have u7:U7.length≤100:=by decide
 have u8:U8.length≤1000000:=by decide
 have c4:C4.length≤100:=by decide
 have n0:([]:List Pln).length≤100:=by decide
 have o1:∀ p:Pln,[p].length≤100:=fun _=>(by decide:1≤100)
 unfold wa3
 rw[de5]
 simp only[n5,I0]
 rw[show ([⟨⟨1,0,0⟩,1⟩,⟨⟨-1,0,0⟩,0⟩,⟨⟨0,1,0⟩,1⟩,⟨⟨0,-1,0⟩,0⟩,⟨⟨0,0,1⟩,1⟩,⟨⟨0,0,-1⟩,0⟩,⟨⟨-1,0,0⟩,-1⟩]:List Pln)=U7 from rfl,
  show ([⟨⟨-1,0,0⟩,0⟩,⟨⟨0,1,0⟩,1⟩,⟨⟨0,-1,0⟩,0⟩,⟨⟨0,0,1⟩,1⟩,⟨⟨0,0,-1⟩,0⟩,⟨⟨1,0,0⟩,1⟩,⟨⟨1,1,1⟩,3⟩,⟨⟨1,0,0⟩,7⟩]:List Pln)=U8 from rfl,
  show ([⟨⟨1,0,0⟩,1⟩,⟨⟨-1,0,0⟩,0⟩,⟨⟨0,1,0⟩,1⟩,⟨⟨0,-1,0⟩,0⟩,⟨⟨0,0,1⟩,1⟩,⟨⟨0,0,-1⟩,0⟩]:List Pln)=U6 from rfl,
  show ([⟨⟨-1,0,0⟩,0⟩,⟨⟨0,-1,0⟩,0⟩,⟨⟨0,0,-1⟩,0⟩,⟨⟨2,3,4⟩,1⟩]:List Pln)=C4 from rfl,
  show ([⟨⟨-1,0,0⟩,0⟩,⟨⟨0,-1,0⟩,0⟩,⟨⟨0,0,-1⟩,0⟩,⟨⟨0,0,1⟩,1⟩,⟨⟨0,1,0⟩,1⟩,⟨⟨1,0,0⟩,1⟩]:List Pln)=LU from rfl]
 simp only[Fb2 (le u),Fb3 (le u),Fb2 (le c4),Fb3 (le c4),oe3,oe4,oe1 _ U8 u8,oe2 _ U8 u8,pe0,Ac8 (le n0),Ac9 (le n0),oe5,Ac8 (le u7),Ac9 (le u7),oe6,
  xe1 (le u),xe2 (le u),oe7,oe8,be2 (le c4),be3 (le c4),xe8,ad4 (le' u) (le' (o1 _)),ad5 (le' u) (le' (o1 _)),xe9,ye0,Ec1 (le u) (le (o1 _)),Ec2 (le u) (le (o1 _)),ye1,ye2,
  Ad2 _ (le (o1 _)),Ad3 _ (le (o1 _)),ye3]
 rw[show ([⟨1,1,1,1⟩,⟨1,1,0,1⟩,⟨1,0,1,1⟩,⟨1,0,0,1⟩,⟨0,1,1,1⟩,⟨0,1,0,1⟩,⟨0,0,1,1⟩,⟨0,0,0,1⟩]:List Pt)=PU from rfl,
  show ([⟨0,0,0,1⟩,⟨0,0,1,4⟩,⟨0,1,0,3⟩,⟨1,0,0,2⟩]:List Pt)=PC from rfl]
 simp only[bc0 PU (by decide),bc1 PU (by decide),bc0 PC (by decide),bc1 PC (by decide),ne4 LU (by decide),ne5 LU (by decide)]
 rfl
theorem Td7:Ka3=true:=by unfold Ka3;rw[Rc8];rfl
theorem Td8:Ka4=true:=by unfold Ka4;rw[Rc8];rfl
end Go.Ev.Ce
namespace Go.Ev
open Go Go.ChangeShapes Go.RowKit
structure Ec7 (w w':World):Prop where
 os:w'.os=w.os
 output:w'.output=w.output
 size:w.heap.size≤w'.heap.size
 block:∀ k,k < w.heap.size→w'.heap[k]?=w.heap[k]?
theorem Ec7.kept {w w':World} (h:Ec7 w w') (may:MemPlace→Prop):w.keptBut w' may:=by
 refine⟨h.os,h.output,fun i hi=>?_⟩
 rw[h.block i hi]
 cases w.heap[i]? with
 | none=>rfl
 | some o=>cases o<;>first | exact⟨rfl,rfl,rfl,fun _ _=>rfl⟩ | exact .inr ⟨rfl,rfl⟩ | rfl
theorem Ec7.frozen {w w':World} (h:Ec7 w w') (b off:Nat) (hb:b < w.heap.size):w'.frozen? ⟨b,off,none⟩=w.frozen? ⟨b,off,none⟩:=by
 simp only[World.frozen?,h.block b hb]
theorem Ec7.cell {w w':World} (h:Ec7 w w') (b off:Nat) (hb:b < w.heap.size):w'.cell? ⟨b,off,none⟩=w.cell? ⟨b,off,none⟩:=by
 simp only[World.cell?,h.block b hb]
theorem Ec7.same {w w':World} (h:Ec7 w w') (p:MemPlace) (hp:p.block < w.heap.size):w.sameAt w' p:=by
 cases p with
 | cell b off=>exact h.cell b off hp
 | map b=>exact h.block b hp
theorem Gb9 {α β:Type} {f:α→Option β}:∀ {l:List α} {r:List β},l.mapM f=some r→r.length=l.length∧∀ (j:Nat) y,r[j]?=some y→∃ x,l[j]?=some x∧f x=some y
 | [],r,h=>by
  have:r=[]:=by simpa using h.symm
  subst this;simp
 | x::l,r,h=>by
  rw[List.mapM_cons] at h
  obtain⟨y,h1,h2⟩:=Option.bind_eq_some_iff.1 h
  obtain⟨r',h3,h4⟩:=Option.bind_eq_some_iff.1 h2
  have:r=y::r':=by simpa using h4.symm
  subst this
  obtain⟨g1,g2⟩:=Gb9 h3
  refine⟨by simp[g1],fun j z hz=>?_⟩
  cases j with
  | zero=>simp at hz;subst hz;exact⟨x,rfl,h1⟩
  | succ j=>simpa using g2 j z (by simpa using hz)
section
variable {D:Type} {enc:TypeId×Value→D} {P:Program}
theorem Ob1 {T : TypeId → Prop} (K : Kids P T) (hsz : ∀ {t e : TypeId}, T t → P.underlying t = some (.slice e) → 0 < P.cellsOf e) {w w' : World} {sp : Nat → Bool} (hs : Ec7 w w') :
  ∀ {ts:List TypeId} {vs:List Value} {ds:List (DataW D)} {ps:List MemPlace},(∀ t∈ts,T t)→DataW.TrodAll enc P w 0 (fun _=>true) true ts vs ds ps→(∀ p∈ps,p.block < w.heap.size)→(∀ p∈ps,sp p.block=true)→DataW.TrodAll enc P w' 0 sp true ts vs ds ps
 | [],[],[],_,_,h,_,_=>h
 | t::ts,v::vs,d::ds,ps,ht,h,hlt,hsp=>by
  obtain⟨p,q,⟨fuel,h1⟩,h2,rfl⟩:=h
  refine⟨p,q,⟨fuel,?_⟩,Ob1 K hsz hs (fun t h=>ht t (by simp[h])) h2 (fun x hx=>hlt x (by simp[hx])) (fun x hx=>hsp x (by simp[hx])),rfl⟩
  exact DataW.trod_stays K hsz (fun h=>by cases h) (ht t (by simp)) h1 (fun x hx=>hs.same x (hlt x (by simp at hx ⊢;exact .inl hx))) (fun x hx=>hsp x (by simp at hx ⊢;exact .inl hx))
 | [],_::_,_,_,_,h,_,_=>h.elim
 | [],[],_::_,_,_,h,_,_=>h.elim
 | _::_,[],_,_,_,h,_,_=>h.elim
 | _::_,_::_,[],_,_,h,_,_=>h.elim
theorem Td9 {T : TypeId → Prop} (K : Kids P T) (hsz : ∀ {t e : TypeId}, T t → P.underlying t = some (.slice e) → 0 < P.cellsOf e) {f : Func} {s : ChangeSpec} {apart fresh handsOn again : Bool} {W W' : World} {args : Array Value} {ds gs : List (DataW D)} {before : List MemPlace} {tb : TypeId}
  (hT:∀ t∈f.params.toList,T t) (hW:DataW.Whole enc P f.params.toList s.vars apart W args.toList ds gs before) (hv:s.vars=[]) (hr:f.resultTypes=#[tb]) (hb:P.underlying tb=some .bool)
  (h1:(s.fn D ds).results=[.lit (.bool true)]) (h2:(s.fn D ds).args=ds) (h3:(s.fn D ds).vars=[]) (hs:Ec7 W W') :
  s.post enc P f apart fresh handsOn again W args (.bool true) W':=by
 have hlt:=hW.lt
 obtain⟨pa,pv,hA,hV,hps,hz,hn⟩:=id hW
 rw[hv] at hV
 have hpv:gs=[]∧pv=[]:=by
  cases gs with
  | nil=>exact⟨rfl,hV⟩
  | cons=>exact hV.elim
 obtain⟨rfl,rfl⟩:=hpv
 rw[← List.append_nil ds] at h1 h3
 have h2:(s.fn D (ds++[])).args=ds:=by rw[List.append_nil];exact h2
 have hpa:before=pa:=by rw[hps];simp
 subst hpa
 have hagain:∀ sp:Nat→Bool,(∀ p∈before,sp p.block=true)→DataW.TrodAll enc P W' 0 sp true f.params.toList args.toList ds before:=fun sp h=>Ob1 K hsz hs hT hA hlt h
 have hres:∀ (b:Nat) (sp:Nat→Bool) (hd:Bool),DataW.TrodAll enc P W' b sp hd f.resultTypes.toList ((Value.bool true).resultList f.resultTypes.size) [.lit (.bool true)] []:=fun b sp hd=>by
  rw[hr]
  exact⟨[],[],⟨1,by simp[DataW.trod,hb,Value.cells,Value.resultList]⟩,rfl,rfl⟩
 have hvars:∀ sp:Nat→Bool,DataW.TrodVars enc P W' sp s.vars ([]:List (DataW D)) []:=fun sp=>by rw[hv];exact rfl
 have hok:∀ (j:Nat) (t:TypeId) (r:Value),f.resultTypes[j]?=some t→((Value.bool true).resultList f.resultTypes.size)[j]?=some r→Value.okWide P W' .any 0 t r:=by
  rw[hr]
  intro j t r h4 h5
  cases j with
  | zero =>
   simp at h4
   subst h4
   have:r=.bool true:=by simpa [Value.resultList] using h5.symm
   subst this
   exact okWide_bool_mk hb _
  | succ j=>simp at h4
 have hag:DataW.TrodAll enc P W' 0 (fun _=>true) true (f.resultTypes.toList++f.params.toList) ((Value.bool true).resultList f.resultTypes.size++args.toList) (.lit (.bool true)::ds) before:=by
  have:=hagain (fun _=>true) (fun _ _=>rfl)
  rw[hr]
  exact⟨[],before,⟨1,by simp[DataW.trod,hb,Value.cells,Value.resultList]⟩,this,rfl⟩
 refine⟨ds,[],before,[],before,[],hW,?_,?_,?_,hs.kept _,fun _=>?_⟩
 ·rw[h1];exact hres _ _ _
 ·rw[h2];exact hagain _ fun p hp=>by simpa using hlt p hp
 ·rw[h3];exact hvars _
 ·refine⟨hok,.lit (.bool true)::ds,[],before,⟨before,[],hag,hvars _,by simp,?_,?_⟩,?_⟩
  ·intro b off hp
   rw[hs.frozen b off (hlt _ hp)]
   exact hz b off (by simpa using hp)
  ·intro ha;simpa using hn ha
  ·intro p hp _;exact hp
variable {w:World} {base:Nat} {spare:Nat→Bool} {held:Bool}
def Lc5 (w:World):Fz:=fun b o=>(w.cell? ⟨b,o,none⟩).isSome
theorem pe1 {fuel : Nat} {t : TypeId} {k : IntKind} {cs : List Value} {x : DataW D × List MemPlace} (ht : P.underlying t = some (.int k)) (h : DataW.trod enc P w base spare held fuel t cs = some x) :
  ∃ n,cs=[.int k n]∧(Lit.int k n).wf=true∧x.1=.lit (.int k n):=by
 cases fuel with
 | zero=>cases h
 | succ fuel =>
  match cs,h with
  | [],h=>simp[DataW.trod,ht] at h
  | [v],h =>
   cases v with
   | int k' n =>
    simp only[DataW.trod,ht] at h
    split at h
    ·rename_i hk
     obtain⟨rfl,hw⟩:=hk
     injection h with h;subst h
     exact⟨n,rfl,hw,rfl⟩
    ·cases h
   | _=>simp[DataW.trod,ht] at h
  | a::b::r,h=>simp[DataW.trod,ht] at h
theorem de6 {fuel : Nat} {t : TypeId} {cs : List Value} {x : DataW D × List MemPlace} (ht : P.underlying t = some .bool) (h : DataW.trod enc P w base spare held fuel t cs = some x) :
  ∃ n,cs=[.bool n]∧x.1=.lit (.bool n):=by
 cases fuel with
 | zero=>cases h
 | succ fuel =>
  match cs,h with
  | [],h=>simp[DataW.trod,ht] at h
  | [v],h =>
   cases v with
   | bool n =>
    simp only[DataW.trod,ht] at h
    injection h with h;subst h
    exact⟨n,rfl,rfl⟩
   | _=>simp[DataW.trod,ht] at h
  | a::b::r,h=>simp[DataW.trod,ht] at h
theorem pd0 {fuel : Nat} {t e : TypeId} {n : Nat} {cs : List Value} {x : DataW D × List MemPlace} (ht : P.underlying t = some (.array n e)) (h : DataW.trod enc P w base spare held fuel t cs = some x) :
  cs.length=P.cellsOf t∧∃ (fuel':Nat) (xs:List (DataW D×List MemPlace)),xs.length=n∧x.1=.agg (xs.map (·.1))∧∀ (j:Nat) y,xs[j]?=some y→DataW.trod enc P w base spare held fuel' e ((cs.drop (j*P.cellsOf e)).take (P.cellsOf e))=some y:=by
 cases fuel with
 | zero=>cases h
 | succ fuel =>
  unfold DataW.trod at h
  rw[ht] at h
  simp only at h
  split at h
  ·rename_i hl
   obtain⟨xs,h1,h2⟩:=Option.map_eq_some_iff.1 h
   have hx:=Gb9 h1
   exact⟨hl,fuel,xs,by simpa using hx.1,by rw[← h2],fun j y hy=>by
    obtain⟨a,ha,hb⟩:=hx.2 j y hy
    have:j < n:=by
     have:=(List.getElem?_eq_some_iff.1 hy).1
     rw[hx.1] at this;simpa using this
    rw[List.getElem?_range this] at ha
    injection ha with ha
    subst ha
    exact hb⟩
  ·cases h
theorem Id6 {fuel : Nat} {t : TypeId} {fs : Array Field} {cs : List Value} {x : DataW D × List MemPlace} (ht : P.underlying t = some (.struct fs)) (h : DataW.trod enc P w base spare held fuel t cs = some x) :
  cs.length=P.cellsOf t∧∃ (fuel':Nat) (xs:List (DataW D×List MemPlace)),xs.length=fs.size∧x.1=.agg (xs.map (·.1))∧∀ (j:Nat) f,fs[j]?=some f→∃ y,xs[j]?=some y∧DataW.trod enc P w base spare held fuel' f.type ((cs.drop f.offset).take (P.cellsOf f.type))=some y:=by
 cases fuel with
 | zero=>cases h
 | succ fuel =>
  unfold DataW.trod at h
  rw[ht] at h
  simp only at h
  split at h
  ·rename_i hl
   obtain⟨xs,h1,h2⟩:=Option.map_eq_some_iff.1 h
   have hx:=Gb9 h1
   refine⟨hl,fuel,xs,by simpa using hx.1,by rw[← h2],fun j f hf=>?_⟩
   have hj:j < xs.length:=by
    rw[hx.1];simpa using (Array.getElem?_eq_some_iff.1 hf).1
   obtain⟨a,ha,hb⟩:=hx.2 j _ (List.getElem?_eq_getElem hj)
   have:a=f:=by
    have:fs.toList[j]?=some f:=by simpa using hf
    exact Option.some.inj (ha.symm.trans this)
   subst this
   exact⟨_,List.getElem?_eq_getElem hj,hb⟩
  ·cases h
theorem Ud0 {fuel : Nat} {t e : TypeId} {cs : List Value} {x : DataW D × List MemPlace} (ht : P.underlying t = some (.slice e)) (h : DataW.trod enc P w base spare held fuel t cs = some x) :
  cs=[.slice none 0 0]∨∃ (a:Addr) (n cap fuel':Nat),cs=[.slice (some a) n cap]∧n≤cap∧cap≤maxLen∧∀ j,j < n→∃ row y,w.cells? base (a.add (j*P.cellsOf e)) (P.cellsOf e)=some row∧DataW.trod enc P w base spare held fuel' e row=some y:=by
 cases fuel with
 | zero=>cases h
 | succ fuel =>
  match cs,h with
  | [],h=>simp[DataW.trod,ht] at h
  | [v],h =>
   cases v with
   | slice a len cap =>
    cases a with
    | none =>
     simp only[DataW.trod,ht] at h
     split at h<;>first | (rename_i e1;cases e1;done) | skip
     all_goals first | exact .inl rfl | (simp_all;done) | skip
    | some a =>
     refine .inr ?_
     simp only[DataW.trod,ht] at h
     split at h
     ·rename_i hc
      obtain⟨elems,h1,h2⟩:=Option.bind_eq_some_iff.1 h
      have hx:=Gb9 h1
      refine⟨a,len,cap,fuel,rfl,hc.2.1,hc.2.2,fun j hj=>?_⟩
      have hj':j < elems.length:=by rw[hx.1];simpa using hj
      obtain⟨i,hi,hb⟩:=hx.2 j _ (List.getElem?_eq_getElem hj')
      rw[List.getElem?_range hj] at hi
      injection hi with hi
      subst hi
      obtain⟨row,r1,r2⟩:=Option.bind_eq_some_iff.1 hb
      exact⟨row,_,r1,r2⟩
     ·cases h
   | _=>simp[DataW.trod,ht] at h
  | a::b::r,h=>simp[DataW.trod,ht] at h
theorem Cd2:∀ (d:Nat) (t:TypeId) (l:List (Nat×CK)),U1 P d t=some l→∀ (fuel:Nat) (cs:List Value) (x:DataW D×List MemPlace),DataW.trod enc P w base spare held fuel t cs=some x→∀ p∈l,wa9 cs.toArray p
 | 0,_,_,h,_,_,_,_=>by cases h
 | d+1,t,l,h,fuel,cs,x,hx=>by
  have hpart:∀ {off n:Nat} {e:TypeId} {l':List (Nat×CK)} {fuel':Nat} {y:DataW D×List MemPlace},zb7 off n (U1 P d e)=some l'→DataW.trod enc P w base spare held fuel' e ((cs.drop off).take n)=some y→∀ p∈l',wa9 cs.toArray p:=fun {off n e l' fuel' y} h1 h2 p hp=>by
   obtain⟨l2,g1,g2,rfl⟩:=Ea4 h1
   obtain⟨q,hq,rfl⟩:=List.mem_map.1 hp
   have:=Cd2 d e l2 g1 fuel' _ y h2 q hq
   have hlt:=g2 q hq
   unfold wa9 at this ⊢
   simp only[List.getElem?_toArray,List.getElem?_take,hlt,if_true,List.getElem?_drop] at this ⊢
   exact this
  have hcat:∀ {α:Type} (f:α→Option (List (Nat×CK))) (xs:List α) (l:List (Nat×CK)),ha3 (xs.map f)=some l→∀ p∈l,∃ a∈xs,∃ l',f a=some l'∧p∈l':=fun {α} f xs=>by
   induction xs with
   | nil=>intro l h;simp only[List.map_nil,ha3] at h;injection h with h;subst h;simp
   | cons a xs ih =>
    intro l h p hp
    simp only[List.map_cons,ha3] at h
    cases h1:f a with
    | none=>simp[h1] at h
    | some l1 =>
    cases h2:ha3 (xs.map f) with
    | none=>simp[h1,h2] at h
    | some l2 =>
    simp only[h1,h2] at h
    injection h with h;subst h
    rcases List.mem_append.1 hp with hp | hp
    ·exact⟨a,by simp,l1,h1,hp⟩
    ·obtain⟨b,hb,r⟩:=ih l2 h2 p hp
     exact⟨b,by simp[hb],r⟩
  unfold U1 at h
  cases hu:P.underlying t with
  | none=>simp[hu] at h
  | some u =>
  cases u with
  | int k =>
   simp only[hu] at h;injection h with h;subst h
   obtain⟨n,rfl,_,_⟩:=pe1 hu hx
   intro p hp;simp at hp;subst hp;exact⟨n,rfl⟩
  | bool =>
   simp only[hu] at h;injection h with h;subst h
   obtain⟨n,rfl,_⟩:=de6 hu hx
   intro p hp;simp at hp;subst hp;exact⟨n,rfl⟩
  | struct fs =>
   simp only[hu] at h
   split at h
   ·cases h
   obtain⟨_,fuel',xs,_,_,hxs⟩:=Id6 hu hx
   intro p hp
   obtain⟨f,hf,l',h1,h2⟩:=hcat _ _ _ h p hp
   split at h1
   ·cases h1
   obtain⟨j,hj⟩:=List.getElem?_of_mem hf
   obtain⟨y,_,hy⟩:=hxs j f (by simpa using hj)
   have hc:P.cellsOf f.type=szT P f.type:=by
    unfold Program.cellsOf szT
    cases P.info? f.type<;>rfl
   rw[hc] at hy
   exact hpart h1 hy p h2
  | array n e =>
   simp only[hu] at h
   split at h
   case isFalse=>cases h
   obtain⟨_,fuel',xs,hn,_,hxs⟩:=pd0 hu hx
   intro p hp
   obtain⟨j,hj,l',h1,h2⟩:=hcat _ _ _ h p hp
   have hj':j < xs.length:=by rw[hn];simpa using hj
   have hy:=hxs j _ (List.getElem?_eq_getElem hj')
   have hc:P.cellsOf e=szT P e:=by
    unfold Program.cellsOf szT
    cases P.info? e<;>rfl
   rw[hc] at hy
   exact hpart h1 hy p h2
  | _=>simp[hu] at h
def ca9 (k:IntKind) (es:Nat) (g:Nat→Int):List b7:=(List.range es).map fun c=>.v (.int k (g c))
def ra7 (k:IntKind) (es:Nat):List (Nat×CK):=(List.range es).map fun c=>(c,.int k)
theorem Cd3 {d : Nat} {t : TypeId} {k : IntKind} {es : Nat} (hf : U1 P d t = some (ra7 k es)) {fuel : Nat} {cs : List Value} {x : DataW D × List MemPlace} (hx : DataW.trod enc P w base spare held fuel t cs = some x) (hl : cs.length = es) :
  ∃ g:Nat→Int,∀ c,c < es→cs[c]?=some (.int k (g c)):=by
 have h:=Cd2 d t _ hf fuel cs x hx
 have h':∀ c,∃ n:Int,c < es→cs[c]?=some (.int k n):=fun c=>by
  by_cases hc:c < es
  ·have:=h (c,.int k) (List.mem_map.2 ⟨c,by simpa using hc,rfl⟩)
   obtain⟨n,hn⟩:=this
   exact⟨n,fun _=>by simpa using hn⟩
  ·exact⟨0,fun h=>absurd h hc⟩
 exact⟨fun c=>Classical.choose (h' c),fun c hc=>Classical.choose_spec (h' c) hc⟩
theorem Ud1 {F:Fz} {w:World} (k:IntKind) (n:Int):V7 F w (.v (.int k n)) (.int k n):=.v _ rfl
theorem Ec8 {k:IntKind} {es:Nat} {g:Nat→Int} {c:Nat} {x:b7} (h:(ca9 k es g)[c]?=some x):c < es∧x=.v (.int k (g c)):=by
 unfold ca9 at h
 obtain⟨h1,h2⟩:=Ga2 h
 exact⟨h1,h2.symm⟩
theorem Ob2 {t e : TypeId} {k : IntKind} {es d : Nat} (ht : P.underlying t = some (.slice e)) (hf : U1 P d e = some (ra7 k es)) (hes : P.cellsOf e = es) (h0 : 0 < es) {fuel : Nat} {cs : List Value} {x : DataW D × List MemPlace} (hx : DataW.trod enc P w 0 spare held fuel t cs = some x) :
  ∃ (v:Value) (n:Nat) (g:Nat→Nat→Int),cs=[v]∧n≤maxLen∧V7 (Lc5 w) w (.tree es n fun j=>ca9 k es (g j)) v:=by
 rcases Ud0 ht hx with rfl | ⟨a,n,cap,fuel',rfl,hn,hc,hel⟩
 ·exact⟨_,0,fun _ _=>0,rfl,Nat.zero_le _,.nil _ _⟩
 ·rw[hes] at hel
  have hcell:∀ j,j < n→∃ g:Nat→Int,∀ c,c < es→w.cell? ((a.add (j*es)).add c)=some (.int k (g c)):=fun j hj=>by
   obtain⟨row,y,h1,h2⟩:=hel j hj
   unfold World.cells? at h1
   split at h1
   ·obtain⟨l1,l2⟩:=Gb9 h1
    have hl:row.length=es:=by simpa using l1
    obtain⟨g,hg⟩:=Cd3 hf h2 hl
    refine⟨g,fun c hc=>?_⟩
    obtain⟨i,hi,hi2⟩:=l2 c _ (hg c hc)
    rw[List.getElem?_range hc] at hi
    injection hi with hi
    subst hi
    exact hi2
   ·cases h1
  have hg:∀ j,∃ g:Nat→Int,j < n→∀ c,c < es→w.cell? ((a.add (j*es)).add c)=some (.int k (g c)):=fun j=>by
   by_cases hj:j < n
   ·obtain⟨g,hg⟩:=hcell j hj
    exact⟨g,fun _=>hg⟩
   ·exact⟨fun _=>0,fun h=>absurd h hj⟩
  obtain⟨g,hg⟩:=Classical.axiomOfChoice hg
  have hspot:0 < n→a.spot=none:=fun hn=>by
   have:=hg 0 hn 0 h0
   simpa [Addr.add] using World.cell?_spot this
  have hw:∀ j c,j < n→c < es→w.cell? ⟨a.block,a.off+(j*es+c),none⟩=some (.int k (g j c)):=fun j c hj hc=>by
   have:=hg j hj c hc
   rw[U2 (hspot (by omega)),U2 rfl] at this
   simpa [Nat.add_assoc] using this
  refine⟨_,n,g,rfl,Nat.le_trans hn hc,.tree es n _ a cap (fun j c=>.int k (g j c)) hspot hn (fun i hi=>by simp[ca9]) (fun i c hi hc=>?_) hw fun i c hi hc=>?_⟩
  ·unfold Lc5
   rw[hw i c hi hc]
   rfl
  ·have:=(Ec8 (List.getElem?_eq_getElem hc)).2
   rw[this]
   exact Ud1 _ _
theorem Id7 (w:World):v8 (fun k=>w.heap.size≤k) (fun _=>⟨0,0,0⟩) [] (Lc5 w) w :=
 ⟨fun id b h=>by simp at h,fun id id' b b' h=>by simp at h,fun _ _ h=>h,fun _ h=>h⟩
theorem Id8 {G : Nat → List Value} {f : FuncId} {S : Sum} (hS : i6 P G f S) {aargs : List b7} {args : List Value} (hrun : ∃ out, (S aargs []).run = some (b true, out)) (hl : aargs.length = args.length)
  (ha:∀ (i:Nat) x x',aargs[i]?=some x→args[i]?=some x'→X9 (fun _=>⟨0,0,0⟩) [] (Lc5 w) w x x') (hG:∀ g (c:Nat) x,(G g)[c]?=some x→x.oneCell'=true∧w.cell? ⟨g,c,none⟩=some x) :
  Calls P f args.toArray w fun e w'=>e=.returned (.bool true)∧Ec7 w w':=by
 obtain⟨out,hrun⟩:=hrun
 obtain⟨_,hc⟩:=hS aargs [] (b true) out hrun (fun k=>w.heap.size≤k) (fun _=>⟨0,0,0⟩) (Lc5 w) w args (Id7 w) hl (fun i x x' h1 h2=>.val (ha i x x' h1 h2)) (fun g c x hx=>by
  obtain⟨h1,h2⟩:=hG g c x hx
  exact⟨h1,by unfold Lc5;rw[h2];rfl,h2⟩)
 refine hc.mono fun e w' ⟨r',he,ρ',F',hA,hH,hW⟩=>?_
 have:=aa7 hW
 subst this
 exact⟨he,hA.ext.os,hA.ext.output,hA.ext.size,fun k hk=>hA.ext.block k hk (by omega)⟩
theorem de7 {ρ : Rho} {H : List b8} {F : Fz} {t : TypeId} {k : IntKind} {es d : Nat} {v : Value} {dd : DataW D} {pp : List MemPlace} {bs : Nat} {r : Reach} (hag : agT P t = true) (hf : U1 P d t = some (ra7 k es)) (hes : P.cellsOf t = es)
  (hok:Value.okWide P w r bs t v) (h:DataW.Trod enc P w base spare held t v dd pp):∃ g:Nat→Int,X9 ρ H F w (.agg (ca9 k es g)) v:=by
 have hv:∃ cs:Array Value,v=.agg cs∧cs.size=P.cellsOf t:=by
  unfold agT at hag
  unfold Value.okWide at hok
  split at hag
  ·rename_i fs hu;rw[hu] at hok;obtain⟨cs,h1,h2,_⟩:=hok;exact⟨cs,h1,h2⟩
  ·rename_i n e hu;rw[hu] at hok;obtain⟨cs,h1,h2,_⟩:=hok;exact⟨cs,h1,h2⟩
  ·cases hag
 obtain⟨cs,rfl,hsz⟩:=hv
 obtain⟨fuel,hx⟩:=h
 have hx:DataW.trod enc P w base spare held fuel t cs.toList=some (dd,pp):=hx
 obtain⟨g,hg⟩:=Cd3 hf hx (by simpa [hes] using hsz)
 refine⟨g,.agg _ _ (by simp[ca9,hsz,hes]) fun c x x' h1 h2=>?_⟩
 obtain⟨hc,rfl⟩:=Ec8 h1
 have:=hg c hc
 have h3:some x'=some (.int k (g c)):=by rw[← h2];simpa using this
 injection h3 with h3
 subst h3
 exact .v _
theorem Id9 {ρ : Rho} {H : List b8} {t e : TypeId} {k : IntKind} {es d : Nat} {v : Value} {dd : DataW D} {pp : List MemPlace} {bs : Nat} {r : Reach} (ht : P.underlying t = some (.slice e)) (hf : U1 P d e = some (ra7 k es)) (hes : P.cellsOf e = es) (h0 : 0 < es)
  (hok:Value.okWide P w r bs t v) (h:DataW.Trod enc P w 0 spare held t v dd pp):∃ (n:Nat) (g:Nat→Nat→Int),n≤maxLen∧X9 ρ H (Lc5 w) w (.tree es n fun j=>ca9 k es (g j)) v:=by
 obtain⟨fuel,hx⟩:=h
 obtain⟨v',n,g,h1,h2,h3⟩:=Ob2 ht hf hes h0 hx
 have hv:v.cells=#[v]:=by
  unfold Value.okWide at hok
  rw[ht] at hok
  cases v with
  | agg cs=>exfalso;simp[Cell.okWide,Cell.ok,ht] at hok
  | _=>rfl
 rw[hv] at h1
 have:v=v':=by simpa using h1
 subst this
 exact⟨n,g,h2,.cell (.mem h3)⟩
theorem de8 {ρ : Rho} {H : List b8} {t e u : TypeId} {k : IntKind} {es d : Nat} {v : Value} {dd : DataW D} {pp : List MemPlace} {bs : Nat} {r : Reach} (ht : P.underlying t = some (.array 2 e)) (he : P.underlying e = some (.slice u)) (hf : U1 P d u = some (ra7 k es)) (hes : P.cellsOf u = es) (hce : P.cellsOf e = 1) (hct : P.cellsOf t = 2) (h0 : 0 < es)
  (hok:Value.okWide P w r bs t v) (h:DataW.Trod enc P w 0 spare held t v dd pp):∃ (m n:Nat) (g j:Nat→Nat→Int),X9 ρ H (Lc5 w) w (.agg [.tree es m fun i=>ca9 k es (g i),.tree es n fun i=>ca9 k es (j i)]) v:=by
 have hv:∃ cs:Array Value,v=.agg cs∧cs.size=P.cellsOf t:=by
  unfold Value.okWide at hok
  rw[ht] at hok;obtain⟨cs,h1,h2,_⟩:=hok;exact⟨cs,h1,h2⟩
 obtain⟨cs,rfl,hsz⟩:=hv
 rw[hct] at hsz
 obtain⟨fuel,hx⟩:=h
 have hx:DataW.trod enc P w 0 spare held fuel t cs.toList=some (dd,pp):=hx
 obtain⟨_,f1,xs,hl,_,hxs⟩:=pd0 ht hx
 have hp:∀ i,i < 2→∃ (n:Nat) (g:Nat→Nat→Int),∀ x',cs[i]?=some x'→V7 (Lc5 w) w (.tree es n fun j=>ca9 k es (g j)) x':=fun i hi=>by
  have hi':i < xs.length:=by omega
  have h1:=hxs i _ (List.getElem?_eq_getElem hi')
  rw[hce] at h1
  obtain⟨v',n,g,e1,_,e3⟩:=Ob2 he hf hes h0 h1
  refine⟨n,g,fun x' hx'=>?_⟩
  have e4:=congrArg (fun l=>l[0]?) e1
  simp only[List.getElem?_take,List.getElem?_drop,Nat.mul_one,Nat.add_zero,Nat.lt_add_one,if_true,List.getElem?_cons_zero,Array.getElem?_toList] at e4
  have:x'=v':=Option.some.inj (hx'.symm.trans (by simpa using e4))
  subst this
  exact e3
 obtain⟨m,g,hm⟩:=hp 0 (by omega)
 obtain⟨n,j,hn⟩:=hp 1 (by omega)
 refine⟨m,n,g,j,.agg _ _ (by simp[hsz]) fun i x x' hx hx'=>?_⟩
 match i,hx with
 | 0,hx=>cases hx;exact .mem (hm x' hx')
 | 1,hx=>cases hx;exact .mem (hn x' hx')
end
end Go.Ev
namespace Go.Ev.L
open Go Go.Ev
theorem Ud2 {α : Type} (t : Ty α) (n : Nat) (g : Nat → Nat → Int) (f : (Nat → Int) → α) (h : ∀ j, ca9 .i64 t.es (g j) = t.row (f (g j))) :
  ∃ l,(W6 t).dec (.tree t.es n fun j=>ca9 .i64 t.es (g j))=some l∧(W6 t).grd (.tree t.es n fun j=>ca9 .i64 t.es (g j))=true:=by
 refine⟨lsL t n fun j=>ca9 .i64 t.es (g j),?_,lb2 t (f:=fun k=>f (g k)) fun k _=>h k⟩
 show Bool.rec (motive:=fun _=>Option (List α)) none (some (lsL t n fun j=>ca9 .i64 t.es (g j))) (Nat.beq t.es t.es)=_
 rw[Nat.beq_refl]
end Go.Ev.L
namespace Go.Ev.L
open Go Go.Ev
def Rdg {α:Type} (c:Cod α) (x:b7) (a:α):Prop:=c.dec x=some a∧c.grd x=true
theorem Ud3 {α:Type} (t:Ty α) (n:Nat) (g:Nat→Nat→Int) (f:(Nat→Int)→α) (h:∀ j,ca9 .i64 t.es (g j)=t.row (f (g j))):∃ l,Rdg (W6 t) (.tree t.es n fun j=>ca9 .i64 t.es (g j)) l:=Ud2 t n g f h
theorem Cd4 {α:Type} (t:Ty α) {cs:List b7} (h:t.ok cs=true):∃ a,Rdg (O8 t) (.agg cs) a:=⟨t.rd cs,by
 show Bool.rec (motive:=fun _=>Option α) none (some (t.rd cs)) (t.ok cs)=_
 rw[h],rfl⟩
section
variable {α β γ δ ε:Type} {c:Cod α} {d:Cod β} {e:Cod γ} {f:Cod δ} {c5:Cod ε} {x y z w v:b7} {a:α} {b':β} {g:γ} {j:δ} {m:ε} {r:b7×List b8}
theorem He1 {k:α→β→γ→DT (b7×List b8)} (h1:Rdg c x a) (h2:Rdg d y b') (h3:Rdg e z g) (h:(k a b' g).run=some r):(ec1 c d e k [x,y,z] []).run=some r:=by
 unfold ec1
 simp only[h1.1,h1.2,h2.1,h2.2,h3.1,h3.2]
 exact h
end
theorem pe2 {g p:Bool} (hg:g=true) (hp:p=true):(DT.guard g (.ret ((one r1B).enc p,([]:List b8)))).run=some (b true,([]:List b8)):=by subst hg;subst hp;rfl
end Go.Ev.L
namespace Go.Ev.Ce
open Go Go.Ev Go.Ev.L Go.Proofs
structure LL where
 la:List Int
 lb:List Int
noncomputable def tD:Ty LL where
 es:=2
 row x:=[eL tI x.la,eL tI x.lb]
 rd r:=⟨rL tI (hdA r),rL tI (hdA (tlA r))⟩
 ok r:=match r with
  | [x,y]=>Bool.and ((tLs tI).ok [x]) ((tLs tI).ok [y])
  | _=>false
 cks:=[.sl 1,.sl 1]
 d:=⟨[],[]⟩
 h0 _:=rfl
 h1 x:=by
  show (⟨rt tI x.la,rt tI x.lb⟩:LL)=x
  rw[n5,n5]
 h2 x:=by
  show Bool.and ((tLs tI).ok ((tLs tI).row x.la)) ((tLs tI).ok ((tLs tI).row x.lb))=true
  rw[(tLs tI).h2,(tLs tI).h2];rfl
 h3 r h:=by
  split at h
  ·rename_i x y
   rw[Bool.and_eq_true] at h
   cases (tLs tI).h3 _ h.1 with
   | cons h1 _=>cases (tLs tI).h3 _ h.2 with
    | cons h2 _=>exact .cons h1 (.cons h2 .nil)
  ·cases h
 h4 _:=rfl
 h5 _:=rfl
theorem Cd5 (n:Nat) (g:Nat→Nat→Int):(tLs tI).ok [.tree 1 n fun j=>ca9 .i64 1 (g j)]=true:=by
 show Bool.and (Nat.beq 1 1) (okL tI n fun j=>ca9 .i64 1 (g j))=true
 have h:okL tI n (fun j=>ca9 .i64 1 (g j))=true:=lb2 tI (f:=fun k=>g k 0) fun _ _=>rfl
 rw[h];rfl
theorem de9 (m n:Nat) (g j:Nat→Nat→Int):∃ a,Rdg (O8 tD) (.agg [.tree 1 m fun i=>ca9 .i64 1 (g i),.tree 1 n fun i=>ca9 .i64 1 (j i)]) a:=Cd4 tD (by
 show Bool.and _ _=true
 rw[Cd5,Cd5];rfl)
end Go.Ev.Ce
section
namespace Go.Ev.Ce
open Go Go.Ev Go.Ev.L Go.Proofs
set_option maxRecDepth 100000
noncomputable def qc4:List (Nat×Sum):=[(30,Sb4),(39,Rc0),(82,lc9)]
theorem jc1:l0 prog G qc4:=⟨lc8,vd6,Zc3,trivial⟩
structure Ka8 where
 alt:Nat
 b9:List Pln
 f0:List Pln
 f7:List Pln
 f8:List Pln
noncomputable def la7 {α:Type} (kk:Ka8→α) (x:List Int) (y:Q2) (z:List Pln):α:=let t1:=(F5 (rt tI x));let t2:=(ea6 (rt tP t1) y.a);let t3:=(ea6 (rt tP t2) y.b);let t4:=(Sa3 (rt tP z));(sl (okE tI x) (sl (vb6 (rt tI x)) (sl (okE tP t1) (sl (qb8 (rt tP t1) y.a) (sl (okE tP t1) (sl (qb8 (rt tP t1) y.a) (sl (okE tP t2) (sl (qb8 (rt tP t2) y.b) (sl (okE tP z) (sl (Fb9 (rt tP z)) (kk ⟨1,t1,t2,t3,t4⟩) (kk ⟨0,[],[],[],[]⟩)) (kk ⟨0,[],[],[],[]⟩)) (kk ⟨0,[],[],[],[]⟩)) (kk ⟨0,[],[],[],[]⟩)) (kk ⟨0,[],[],[],[]⟩)) (kk ⟨0,[],[],[],[]⟩)) (kk ⟨0,[],[],[],[]⟩)) (kk ⟨0,[],[],[],[]⟩)) (kk ⟨0,[],[],[],[]⟩)) (kk ⟨0,[],[],[],[]⟩))
noncomputable def Ka9 (x:List Int) (y:Q2) (z:List Pln):Ka8:=la7 (fun r=>r) x y z
noncomputable def Wa5 (r:Ka8):DT (b7×List b8):=(.ite (Nat.beq r.alt 1) (.ret ((.sl 0 0 4 0),[⟨25,1,[[(eL tP r.b9)],[(eL tP r.f0)],[(eL tP r.f7)],[(eL tP r.f8)]],true,false,0⟩])) .fail)
theorem Ec9 {α β:Type} (F:α→β) (kk:Ka8→α) (x:List Int) (y:Q2) (z:List Pln):F (la7 kk x y z)=la7 (fun r=>F (kk r)) x y z:=by unfold la7;(repeat' apply n7 (f:=F))<;>rfl
noncomputable def Hb0:Sum:=ec1 (W6 tI) (O8 tQ) (W6 tP) (fun x y z=>Wa5 (Ka9 x y z))
theorem qc5:i6 prog G 14 Hb0:=yd2 (bd b14 jc1) fun x y z=>s5 (Eq.trans (b:=la7 (fun r=>(Wa5 r).run) x y z) (by kernel_rfl) (Ec9 (fun r=>(Wa5 r).run) (fun r=>r) x y z).symm)
noncomputable def fb8:List (Nat×Sum):=[(13,Gb8),(30,Sb4),(14,Hb0),(31,wb4),(32,mc2),(33,ob0),(34,bc9)]
theorem Lb8:l0 prog G fb8:=⟨qc1,lc8,qc5,Nb9,bd0,Gb3,Lc4,trivial⟩
structure E9 where
 bs7:Bool
 ga9:List Pln
 b9:List Pln
 f0:List Pln
 f7:List Pln
 f8:List Pln
 g8:List Pln
structure F4 where
 P5:Int
noncomputable def Hb1 (p:E9) (s:F4):St:=⟨(ra 7 ((b p.bs7)::((eL tP p.ga9)::(ra 13 ((.sl 0 0 5 0)::((i 5)::((i s.P5)::(ra 39 [])))))))),[⟨25,1,[[(eL tP p.b9)],[(eL tP p.f0)],[(eL tP p.f7)],[(eL tP p.f8)],[(eL tP p.g8)]],true,false,0⟩]⟩
noncomputable def S3 {α:Type} (k:F4→α) (e:Nat→α) (z:α) (p:E9) (s:F4):α:=let t1:=(na7 (rt tP p.ga9) (lsL tP (toN (hdA (d8 (d9 [[(eL tP p.b9)],[(eL tP p.f0)],[(eL tP p.f7)],[(eL tP p.f8)],[(eL tP p.g8)]] (0+s.P5.toNat)) 0))) (toG (hdA (d8 (d9 [[(eL tP p.b9)],[(eL tP p.f0)],[(eL tP p.f7)],[(eL tP p.f8)],[(eL tP p.g8)]] (0+s.P5.toNat)) 0)))));let t2:=(Ta0 (rt tP p.ga9) (lsL tP (toN (hdA (d8 (d9 [[(eL tP p.b9)],[(eL tP p.f0)],[(eL tP p.f7)],[(eL tP p.f8)],[(eL tP p.g8)]] (0+s.P5.toNat)) 0))) (toG (hdA (d8 (d9 [[(eL tP p.b9)],[(eL tP p.f0)],[(eL tP p.f7)],[(eL tP p.f8)],[(eL tP p.g8)]] (0+s.P5.toNat)) 0)))));let t3:=(na7 (lsL tP (toN (hdA (d8 (d9 [[(eL tP p.b9)],[(eL tP p.f0)],[(eL tP p.f7)],[(eL tP p.f8)],[(eL tP p.g8)]] (0+s.P5.toNat)) 0))) (toG (hdA (d8 (d9 [[(eL tP p.b9)],[(eL tP p.f0)],[(eL tP p.f7)],[(eL tP p.f8)],[(eL tP p.g8)]] (0+s.P5.toNat)) 0)))) (rt tP p.ga9));let t4:=(Ta0 (lsL tP (toN (hdA (d8 (d9 [[(eL tP p.b9)],[(eL tP p.f0)],[(eL tP p.f7)],[(eL tP p.f8)],[(eL tP p.g8)]] (0+s.P5.toNat)) 0))) (toG (hdA (d8 (d9 [[(eL tP p.b9)],[(eL tP p.f0)],[(eL tP p.f7)],[(eL tP p.f8)],[(eL tP p.g8)]] (0+s.P5.toNat)) 0)))) (rt tP p.ga9));let t5:=(ia3 (rt tP p.ga9) (lsL tP (toN (hdA (d8 (d9 [[(eL tP p.b9)],[(eL tP p.f0)],[(eL tP p.f7)],[(eL tP p.f8)],[(eL tP p.g8)]] (0+s.P5.toNat)) 0))) (toG (hdA (d8 (d9 [[(eL tP p.b9)],[(eL tP p.f0)],[(eL tP p.f7)],[(eL tP p.f8)],[(eL tP p.g8)]] (0+s.P5.toNat)) 0)))));let t6:=(Ka6 (rt tP p.ga9) (lsL tP (toN (hdA (d8 (d9 [[(eL tP p.b9)],[(eL tP p.f0)],[(eL tP p.f7)],[(eL tP p.f8)],[(eL tP p.g8)]] (0+s.P5.toNat)) 0))) (toG (hdA (d8 (d9 [[(eL tP p.b9)],[(eL tP p.f0)],[(eL tP p.f7)],[(eL tP p.f8)],[(eL tP p.g8)]] (0+s.P5.toNat)) 0)))));let t7:=(ia3 (lsL tP (toN (hdA (d8 (d9 [[(eL tP p.b9)],[(eL tP p.f0)],[(eL tP p.f7)],[(eL tP p.f8)],[(eL tP p.g8)]] (0+s.P5.toNat)) 0))) (toG (hdA (d8 (d9 [[(eL tP p.b9)],[(eL tP p.f0)],[(eL tP p.f7)],[(eL tP p.f8)],[(eL tP p.g8)]] (0+s.P5.toNat)) 0)))) (rt tP p.ga9));let t8:=(Ka6 (lsL tP (toN (hdA (d8 (d9 [[(eL tP p.b9)],[(eL tP p.f0)],[(eL tP p.f7)],[(eL tP p.f8)],[(eL tP p.g8)]] (0+s.P5.toNat)) 0))) (toG (hdA (d8 (d9 [[(eL tP p.b9)],[(eL tP p.f0)],[(eL tP p.f7)],[(eL tP p.f8)],[(eL tP p.g8)]] (0+s.P5.toNat)) 0)))) (rt tP p.ga9));(sl (decide (s.P5 < 5)) (sl (inB s.P5 5) (sl (((Nat.blt (0+s.P5.toNat) (len [[(eL tP p.b9)],[(eL tP p.f0)],[(eL tP p.f7)],[(eL tP p.f8)],[(eL tP p.g8)]]))&&(Nat.ble (0+1) (len (d9 [[(eL tP p.b9)],[(eL tP p.f0)],[(eL tP p.f7)],[(eL tP p.f8)],[(eL tP p.g8)]] (0+s.P5.toNat)))))&&(J4 [(CK.sl 4)] (d8 (d9 [[(eL tP p.b9)],[(eL tP p.f0)],[(eL tP p.f7)],[(eL tP p.f8)],[(eL tP p.g8)]] (0+s.P5.toNat)) 0))) (sl (okE tP p.ga9) (sl (okL tP (toN (hdA (d8 (d9 [[(eL tP p.b9)],[(eL tP p.f0)],[(eL tP p.f7)],[(eL tP p.f8)],[(eL tP p.g8)]] (0+s.P5.toNat)) 0))) (toG (hdA (d8 (d9 [[(eL tP p.b9)],[(eL tP p.f0)],[(eL tP p.f7)],[(eL tP p.f8)],[(eL tP p.g8)]] (0+s.P5.toNat)) 0)))) (sl (na8 (rt tP p.ga9) (lsL tP (toN (hdA (d8 (d9 [[(eL tP p.b9)],[(eL tP p.f0)],[(eL tP p.f7)],[(eL tP p.f8)],[(eL tP p.g8)]] (0+s.P5.toNat)) 0))) (toG (hdA (d8 (d9 [[(eL tP p.b9)],[(eL tP p.f0)],[(eL tP p.f7)],[(eL tP p.f8)],[(eL tP p.g8)]] (0+s.P5.toNat)) 0))))) (sl (okE tP p.ga9) (sl (okL tP (toN (hdA (d8 (d9 [[(eL tP p.b9)],[(eL tP p.f0)],[(eL tP p.f7)],[(eL tP p.f8)],[(eL tP p.g8)]] (0+s.P5.toNat)) 0))) (toG (hdA (d8 (d9 [[(eL tP p.b9)],[(eL tP p.f0)],[(eL tP p.f7)],[(eL tP p.f8)],[(eL tP p.g8)]] (0+s.P5.toNat)) 0)))) (sl (Ta1 (rt tP p.ga9) (lsL tP (toN (hdA (d8 (d9 [[(eL tP p.b9)],[(eL tP p.f0)],[(eL tP p.f7)],[(eL tP p.f8)],[(eL tP p.g8)]] (0+s.P5.toNat)) 0))) (toG (hdA (d8 (d9 [[(eL tP p.b9)],[(eL tP p.f0)],[(eL tP p.f7)],[(eL tP p.f8)],[(eL tP p.g8)]] (0+s.P5.toNat)) 0))))) (sl (!(t1==t2)) (e 1) (sl (okL tP (toN (hdA (d8 (d9 [[(eL tP p.b9)],[(eL tP p.f0)],[(eL tP p.f7)],[(eL tP p.f8)],[(eL tP p.g8)]] (0+s.P5.toNat)) 0))) (toG (hdA (d8 (d9 [[(eL tP p.b9)],[(eL tP p.f0)],[(eL tP p.f7)],[(eL tP p.f8)],[(eL tP p.g8)]] (0+s.P5.toNat)) 0)))) (sl (okE tP p.ga9) (sl (na8 (lsL tP (toN (hdA (d8 (d9 [[(eL tP p.b9)],[(eL tP p.f0)],[(eL tP p.f7)],[(eL tP p.f8)],[(eL tP p.g8)]] (0+s.P5.toNat)) 0))) (toG (hdA (d8 (d9 [[(eL tP p.b9)],[(eL tP p.f0)],[(eL tP p.f7)],[(eL tP p.f8)],[(eL tP p.g8)]] (0+s.P5.toNat)) 0)))) (rt tP p.ga9)) (sl (okL tP (toN (hdA (d8 (d9 [[(eL tP p.b9)],[(eL tP p.f0)],[(eL tP p.f7)],[(eL tP p.f8)],[(eL tP p.g8)]] (0+s.P5.toNat)) 0))) (toG (hdA (d8 (d9 [[(eL tP p.b9)],[(eL tP p.f0)],[(eL tP p.f7)],[(eL tP p.f8)],[(eL tP p.g8)]] (0+s.P5.toNat)) 0)))) (sl (okE tP p.ga9) (sl (Ta1 (lsL tP (toN (hdA (d8 (d9 [[(eL tP p.b9)],[(eL tP p.f0)],[(eL tP p.f7)],[(eL tP p.f8)],[(eL tP p.g8)]] (0+s.P5.toNat)) 0))) (toG (hdA (d8 (d9 [[(eL tP p.b9)],[(eL tP p.f0)],[(eL tP p.f7)],[(eL tP p.f8)],[(eL tP p.g8)]] (0+s.P5.toNat)) 0)))) (rt tP p.ga9)) (sl (!(t3==t4)) (e 1) (sl (okE tP p.ga9) (sl (okL tP (toN (hdA (d8 (d9 [[(eL tP p.b9)],[(eL tP p.f0)],[(eL tP p.f7)],[(eL tP p.f8)],[(eL tP p.g8)]] (0+s.P5.toNat)) 0))) (toG (hdA (d8 (d9 [[(eL tP p.b9)],[(eL tP p.f0)],[(eL tP p.f7)],[(eL tP p.f8)],[(eL tP p.g8)]] (0+s.P5.toNat)) 0)))) (sl (ia4 (rt tP p.ga9) (lsL tP (toN (hdA (d8 (d9 [[(eL tP p.b9)],[(eL tP p.f0)],[(eL tP p.f7)],[(eL tP p.f8)],[(eL tP p.g8)]] (0+s.P5.toNat)) 0))) (toG (hdA (d8 (d9 [[(eL tP p.b9)],[(eL tP p.f0)],[(eL tP p.f7)],[(eL tP p.f8)],[(eL tP p.g8)]] (0+s.P5.toNat)) 0))))) (sl (okE tP p.ga9) (sl (okL tP (toN (hdA (d8 (d9 [[(eL tP p.b9)],[(eL tP p.f0)],[(eL tP p.f7)],[(eL tP p.f8)],[(eL tP p.g8)]] (0+s.P5.toNat)) 0))) (toG (hdA (d8 (d9 [[(eL tP p.b9)],[(eL tP p.f0)],[(eL tP p.f7)],[(eL tP p.f8)],[(eL tP p.g8)]] (0+s.P5.toNat)) 0)))) (sl (Ka7 (rt tP p.ga9) (lsL tP (toN (hdA (d8 (d9 [[(eL tP p.b9)],[(eL tP p.f0)],[(eL tP p.f7)],[(eL tP p.f8)],[(eL tP p.g8)]] (0+s.P5.toNat)) 0))) (toG (hdA (d8 (d9 [[(eL tP p.b9)],[(eL tP p.f0)],[(eL tP p.f7)],[(eL tP p.f8)],[(eL tP p.g8)]] (0+s.P5.toNat)) 0))))) (sl (!(t5==t6)) (e 1) (sl (okL tP (toN (hdA (d8 (d9 [[(eL tP p.b9)],[(eL tP p.f0)],[(eL tP p.f7)],[(eL tP p.f8)],[(eL tP p.g8)]] (0+s.P5.toNat)) 0))) (toG (hdA (d8 (d9 [[(eL tP p.b9)],[(eL tP p.f0)],[(eL tP p.f7)],[(eL tP p.f8)],[(eL tP p.g8)]] (0+s.P5.toNat)) 0)))) (sl (okE tP p.ga9) (sl (ia4 (lsL tP (toN (hdA (d8 (d9 [[(eL tP p.b9)],[(eL tP p.f0)],[(eL tP p.f7)],[(eL tP p.f8)],[(eL tP p.g8)]] (0+s.P5.toNat)) 0))) (toG (hdA (d8 (d9 [[(eL tP p.b9)],[(eL tP p.f0)],[(eL tP p.f7)],[(eL tP p.f8)],[(eL tP p.g8)]] (0+s.P5.toNat)) 0)))) (rt tP p.ga9)) (sl (okL tP (toN (hdA (d8 (d9 [[(eL tP p.b9)],[(eL tP p.f0)],[(eL tP p.f7)],[(eL tP p.f8)],[(eL tP p.g8)]] (0+s.P5.toNat)) 0))) (toG (hdA (d8 (d9 [[(eL tP p.b9)],[(eL tP p.f0)],[(eL tP p.f7)],[(eL tP p.f8)],[(eL tP p.g8)]] (0+s.P5.toNat)) 0)))) (sl (okE tP p.ga9) (sl (Ka7 (lsL tP (toN (hdA (d8 (d9 [[(eL tP p.b9)],[(eL tP p.f0)],[(eL tP p.f7)],[(eL tP p.f8)],[(eL tP p.g8)]] (0+s.P5.toNat)) 0))) (toG (hdA (d8 (d9 [[(eL tP p.b9)],[(eL tP p.f0)],[(eL tP p.f7)],[(eL tP p.f8)],[(eL tP p.g8)]] (0+s.P5.toNat)) 0)))) (rt tP p.ga9)) (sl (!(t7==t8)) (e 1) (k ⟨(W (s.P5+1))⟩)) z) z) z) z) z) z)) z) z) z) z) z) z)) z) z) z) z) z) z)) z) z) z) z) z) z) z) z) (e 2))
noncomputable def M3 (p:E9) (s:F4):Stp F4:=S3 .next .exit .fail p s
noncomputable def za6:Lo E9 F4:=⟨En fb8,0,pf5,[1,1,1,0,1,4,4],[7,8,22,23,24],.p,[⟨(ru2 7 ((.s (.o .bool))::((.s (.c 4 (nL tP)))::(ru2 13 ((.s (.o (.sl 0 0 (some 0) (some 5))))::((.s (.o (.lit .i64 5)))::((.s (.o (.int .i64)))::(ru2 39 [])))))))),[⟨25,1,true,(some [[(.c 4 (nL tP))],[(.c 4 (nL tP))],[(.c 4 (nL tP))],[(.c 4 (nL tP))],[(.c 4 (nL tP))]])⟩],fun a H=>(⟨(toB (slT a 7)),(rL tP (slT a 8)),(rL tP (slT (rwT (elT H 0) 0) 0)),(rL tP (slT (rwT (elT H 0) 1) 0)),(rL tP (slT (rwT (elT H 0) 2) 0)),(rL tP (slT (rwT (elT H 0) 3) 0)),(rL tP (slT (rwT (elT H 0) 4) 0))⟩,⟨(toI (slT a 24))⟩)⟩],M3,[(none,fun p s=>⟨[(b false)],[]⟩),(some 0,fun p s=>⟨(ra 7 ((b p.bs7)::((eL tP p.ga9)::(ra 13 ((.sl 0 0 5 0)::((i 5)::((i s.P5)::((b (decide (s.P5 < 5)))::(ra 38 []))))))))),[⟨25,1,[[(eL tP p.b9)],[(eL tP p.f0)],[(eL tP p.f7)],[(eL tP p.f8)],[(eL tP p.g8)]],true,false,0⟩]⟩)],Hb1⟩
theorem Hb2:za6.Ok:=Lo.ok [] (by kernel_rfl) .nil rfl (.cons (fun a H=>by kernel_rfl) .nil) fun p s=>(.of @S3 (fun F _ _ _ _ _=>by unfold S3;(repeat' apply n7 (f:=F))<;>rfl) (by kernel_rfl))
noncomputable def ga8 (x:LL) (y:Q2) (z:List Pln):Option (b7×List b8):=let t1:=Ka3;let t2:=(F5 (rt tI x.la));let t3:=(Ka9 (rt tI x.lb) y (rt tP z));let t4:=(lp (M3 (⟨t1,(rt tP t2),(rt tP t3.b9),(rt tP t3.f0),(rt tP t3.f7),(rt tP t3.f8),(rt tP t2)⟩:E9)) (⟨0⟩:F4));(sl Ka4 (sl (okE tI x.la) (sl (vb6 (rt tI x.la)) (sl (okE tI x.lb) (sl (okE tP z) (sl (Nat.beq t3.alt 1) (sl ((cnE tP t2)&&((cnE tP t3.b9)&&((cnE tP t3.f0)&&((cnE tP t3.f7)&&((cnE tP t3.f8)&&((cnE tP t2)&&true)))))) (sl (Nat.beq t4.1 1) (some ((b false),[])) (sl (Nat.beq t4.1 2) (some ((b t1),[])) none)) none) none) none) none) none) none) none)
noncomputable def sa6 (x:LL) (y:Q2) (z:List Pln):Bool:=J9 (one r1B) (ga8 x y z)
noncomputable def sa7 (x:LL) (y:Q2) (z:List Pln):Bool:=okO (one r1B) (ga8 x y z)
noncomputable def cc4:Sum:=ec1 (O8 tD) (O8 tQ) (W6 tP) (fun x y z=>.guard (sa7 x y z) (.ret ((one r1B).enc (sa6 x y z),[])))
theorem Sb6:i6 prog G 5 cc4:=ke2 (bd b5 Lb8) (one r1B) (o:=ga8) fun x y z=>za4 (.s .p (.s .p (.s .p (.s (.s .p (.b (.u za6.ls))) .p)))) [za6.pr] (by kernel_rfl) (.cons Hb2 .nil) (by kernel_rfl)
end Go.Ev.Ce
end
namespace Go.Ev.Ce
open Go Go.Ev Go.Ev.L Go.Proofs
noncomputable def Lc6 (P:E9):List (List Pln):=[P.b9,P.f0,P.f7,P.f8,P.g8]
theorem He2 (P:E9) {j:Nat} (h:j < 5):d9 [[(eL tP P.b9)],[(eL tP P.f0)],[(eL tP P.f7)],[(eL tP P.f8)],[(eL tP P.g8)]] (0+j)=[eL tP (gL (tLs tP) (Lc6 P) j)]:=by
 rw[Nat.zero_add]
 exact S5 (tLs tP) (l:=Lc6 P) h
theorem wd7 (P:E9) (ha:P.ga9.length≤1000000) (hc:∀ c∈Lc6 P,c.length≤1000000):(lp (M3 P) ⟨0⟩).1=2:=by
 have h:=bb4 (step:=M3 P) (mk:=fun j=>(⟨(j:Int)⟩:F4)) (c:=fun _=>false) (u:=1) (fin:=2) (tLs tP) (Lc6 P) (by simp[Lc6])
  (fun j hj=>by
   have hc1:=hc _ (wc2 (tLs tP) hj)
   have h5:j < 5:=hj
   have e1:=He2 P h5
   generalize gL (tLs tP) (Lc6 P) j=c at *
   have e2:lsL tP (toN (hdA (d8 [eL tP c] 0))) (toG (hdA (d8 [eL tP c] 0)))=c:=n5 tP c
   have e3:okL tP (toN (hdA (d8 [eL tP c] 0))) (toG (hdA (d8 [eL tP c] 0)))=true:=I0 tP c
   have e4:J4 [(CK.sl 4)] (d8 [eL tP c] 0)=true:=rfl
   have e5:Nat.ble (0+1) (len [eL tP c])=true:=rfl
   have e6:Nat.blt (0+j) (len [[(eL tP P.b9)],[(eL tP P.f0)],[(eL tP P.f7)],[(eL tP P.f8)],[(eL tP P.g8)]])=true:=by
    rw[Nat.zero_add,Nat.blt_eq];exact h5
   have hA:P.ga9.length≤100000000:=by omega
   have hA':P.ga9.length≤1000000000:=by omega
   have hC:c.length≤100000000:=by omega
   have hC':c.length≤1000000000:=by omega
   simp only[M3,S3,Int.toNat_natCast,e1,e2,e3,e4,e5,e6,n5,I0,ad4 hA hC,ad5 hA hC,ad4 hC hA,ad5 hC hA,od7 hA hC,od8 hA hC,od7 hC hA,od8 hC hA,
    Ec1 hA' hC',Ec2 hA' hC',Ec1 hC' hA',Ec2 hC' hA',Rc6 hA' hC',Rc7 hA' hC',Rc6 hC' hA',Rc7 hC' hA',
    q8 h5 (by omega),beq_self_eq_true,Bool.and_self,Bool.not_true,p6,Aa0]
   rw[btD (show (j:Int) < 5 by omega),bt (g9 h5)])
  (by simp only[M3,S3];rw[bfD (show ¬ (((Lc6 P).length:Nat):Int) < 5 by simp[Lc6])]) 0 (Nat.zero_le _)
 rw[List.drop_zero,show ((Lc6 P).any fun _=>false)=false by simp] at h
 exact h
theorem Jd0 (x:List Int) (y:Q2) (z:List Pln):Ka9 x y z=⟨1,F5 x,ea6 (F5 x) y.a,ea6 (ea6 (F5 x) y.a) y.b,Sa3 z⟩:=by
 have h1:=wd1 x
 have h2:=Sd9 (F5 x) y.a (by omega)
 unfold Ka9 la7
 simp only[n5,I0,Sd5,ie1 (F5 x) y.a (by omega),ie1 (ea6 (F5 x) y.a) y.b (by omega),we9,p6]
theorem pd1 (x:LL) (y:Q2) (z:List Pln):ga8 x y z=some (b true,[]):=by
 have hm:=wd1 x.la
 have h1:=wd1 x.lb
 have h2:=Sd9 (F5 x.lb) y.a (by omega)
 have h3:=Sd9 (ea6 (F5 x.lb) y.a) y.b (by omega)
 have h4:=xe0 z
 have h:=wd7 ⟨true,F5 x.la,F5 x.lb,ea6 (F5 x.lb) y.a,ea6 (ea6 (F5 x.lb) y.a) y.b,Sa3 z,F5 x.la⟩ (by show (F5 x.la).length≤_;omega) (fun c hc=>by
  simp only[Lc6,List.mem_cons,List.not_mem_nil,or_false] at hc
  rcases hc with rfl | rfl | rfl | rfl | rfl<;>omega)
 unfold ga8
 simp only[n5,I0,o7,Td7,Td8,Sd5,Jd0,h]
 rfl
theorem ee0 (x:LL) (y:Q2) (z:List Pln):sa6 x y z=true:=by unfold sa6;rw[pd1];rfl
theorem ee1 (x:LL) (y:Q2) (z:List Pln):sa7 x y z=true:=by unfold sa7;rw[pd1];rfl
end Go.Ev.Ce
