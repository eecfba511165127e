/- Own work: a part of the proof. -/
import Derived.Test.YtlccibobknidjaaGreatEvE2
import Derived.Shelf.SlSortCmp.WholeK
import Derived.Test.YtlccibobknidjaaGreatEvSp3
import Derived.KernelRfl
set_option linter.unusedVariables false
set_option linter.unusedSimpArgs false
set_option linter.unnecessarySimpa false
set_option linter.unusedSectionVars false
namespace Go.Ev.Ce
open Go Go.Ev Go.Ev.L Go.Proofs
theorem btD {p:Prop} {inst:Decidable p} (h:p) {α:Type} (t e:α):sl (@decide p inst) t e=t:=bt (decide_eq_true h) t e
theorem bfD {p:Prop} {inst:Decidable p} (h:¬ p) {α:Type} (t e:α):sl (@decide p inst) t e=e:=bf (decide_eq_false h) t e
theorem m0 {j n:Nat} (h:j < n):(j:Int) < (n:Int):=Int.ofNat_lt.2 h
theorem A7 {j n:Nat} (h:¬ j < n):¬ (j:Int) < (n:Int):=fun h'=>h (Int.ofNat_lt.1 h')
theorem Sb5 {σ τ α : Type} {step : σ → Stp σ} {mk : Nat → τ → σ} {f : α → List α → τ → τ} {g : List α → τ → τ} {fin : τ → Nat} (l : List α) (I : Nat → τ → Prop) (hl : l.length ≤ 1000000000)
  (g0:∀ a,g [] a=a) (g1:∀ x r a,g (x::r) a=g r (f x r a))
  (h:∀ j a (hj:j < l.length),I j a→step (mk j a)=.next (mk (j+1) (f l[j] (l.drop (j+1)) a))∧I (j+1) (f l[j] (l.drop (j+1)) a))
  (hf:∀ j a,l.length≤j→I j a→step (mk j a)=.exit (fin a)) (j0:Nat) (a:τ) (hi:I j0 a) :
  lp step (mk j0 a)=(fin (g (l.drop j0) a),mk (max j0 l.length) (g (l.drop j0) a))∧I (max j0 l.length) (g (l.drop j0) a):=by
 have key:=ic6 (step:=step) (I:=fun m s=>∃ j b,m=l.length - j∧max j l.length=max j0 l.length∧s=mk j b∧I j b∧g (l.drop j) b=g (l.drop j0) a)
  (Q:=fun u s=>u=fin (g (l.drop j0) a)∧s=mk (max j0 l.length) (g (l.drop j0) a)∧I (max j0 l.length) (g (l.drop j0) a)) (fun m s ⟨j,b,hm,hj,hs,hb,he⟩=>by
   subst hs
   by_cases hlt:j < l.length
   ·obtain⟨h1,h2⟩:=h j b hlt hb
    refine .inr ⟨_,l.length - (j+1),by omega,h1,j+1,_,rfl,by omega,rfl,h2,?_⟩
    rw[← he,List.drop_eq_getElem_cons hlt,g1]
   ·have hd:l.drop j=[]:=List.drop_eq_nil_of_le (by omega)
    rw[hd,g0] at he
    have hj':j=max j0 l.length:=by omega
    subst he
    rw[← hj']
    exact .inl ⟨_,hf j _ (by omega) hb,rfl,rfl,hb⟩) (l.length - j0) (mk j0 a) (by omega) ⟨j0,a,rfl,rfl,rfl,hi,rfl⟩
 exact⟨Prod.ext key.1 key.2.1,key.2.2⟩
noncomputable def Za2 (r:List Pln) (p q:Pln) (out:List Pt) (s:Pln):List Pt :=
 if (mpt p q s).2&&(!rc9 out (mpt p q s).1&&inn r (mpt p q s).1) then out++[(mpt p q s).1] else out
noncomputable def Yb4 (r:List Pln) (p q:Pln) (l:List Pln) (out:List Pt):List Pt:=l.foldl (Za2 r p q) out
noncomputable def Hb9 (r:List Pln) (p:Pln):List Pln→List Pt→List Pt
 | [],out=>out
 | q::l,out=>Hb9 r p l (Yb4 r p q l out)
noncomputable def Mc9 (r:List Pln):List Pln→List Pt→List Pt
 | [],out=>out
 | p::l,out=>Mc9 r l (Hb9 r p l out)
noncomputable def cor (r:List Pln):List Pt:=Mc9 r r []
def Bds (r:List Pln):Prop:=∀ p∈r,Bd p
theorem Ad1 (r:List Pln) (p q:Pln) (out:List Pt) (s:Pln):(Za2 r p q out s).length≤out.length+1:=by
 unfold Za2
 split
 ·simp
 ·omega
theorem jd4 (r:List Pln) (p q:Pln):∀ (l:List Pln) (out:List Pt),(Yb4 r p q l out).length≤out.length+l.length
 | [],out=>Nat.le_refl _
 | s::l,out=>by
  have h1:=Ad1 r p q out s
  have h2:=jd4 r p q l (Za2 r p q out s)
  show (Yb4 r p q l (Za2 r p q out s)).length≤_
  simp only[List.length_cons]
  omega
theorem jd5 (r:List Pln) (p:Pln):∀ (l:List Pln) (out:List Pt),l.length≤200→(Hb9 r p l out).length≤out.length+200*l.length
 | [],out,_=>by simp[Hb9]
 | q::l,out,h=>by
  simp only[List.length_cons] at h ⊢
  have h1:=jd4 r p q l out
  have h2:=jd5 r p l (Yb4 r p q l out) (by omega)
  show (Hb9 r p l (Yb4 r p q l out)).length≤_
  omega
theorem Td5 (r:List Pln):∀ (l:List Pln) (out:List Pt),l.length≤200→(Mc9 r l out).length≤out.length+40000*l.length
 | [],out,_=>by simp[Mc9]
 | p::l,out,h=>by
  simp only[List.length_cons] at h ⊢
  have h1:=jd5 r p l out (by omega)
  have h2:=Td5 r l (Hb9 r p l out) (by omega)
  show (Mc9 r l (Hb9 r p l out)).length≤_
  omega
theorem le2 (r:List Pln) (_:Bds r) (hr:r.length≤200):(cor r).length≤8000000:=by
 have:=Td5 r r [] hr
 rw[List.length_nil] at this
 show (Mc9 r r []).length≤_
 omega
noncomputable def ph (out:List Pt):Nat:=match out with
 | []=>0
 | _::_=>1
theorem Ee5 (x:Pt):rc9 [] x=false:=rfl
theorem ad6 {α:Type} (t:Ty α) (l:List α) (n k:Nat):gL t (l.drop n) k=gL t l (n+k):=by simp[gL,List.getD_eq_getElem?_getD,List.getElem?_drop]
theorem Ee6 {n:Nat} {l:List Pt} (hn:n=l.length) (h:l.length≤1000000000):(Nat.beq n (len (bL tX l))&&Nat.ble ((n+1)*32) room)=true:=by
 subst hn
 rw[na4,Nat.beq_refl,Bool.true_and]
 exact Cc8 (by omega)
theorem Ve0 (l:List Pt) (x:Pt):app (bL tX l) [[i x.px,i x.py,i x.pz,i x.pw]]=bL tX (l++[x]):=Ma0 tX l [x]
noncomputable def slX (l:List Pt):b7×List b8:=match l with
 | []=>(.v (.slice none 0 0),[])
 | _::_=>(.sl 0 0 l.length 0,[⟨54,4,bL tX l,true,false,0⟩])
theorem Ee7 (l:List Pt):(one (r1L tX)).rd (slX l)=some l:=by
 cases l with
 | nil=>rfl
 | cons x l =>
  show Bool.rec (motive:=fun _=>Option (List Pt)) none (some (slR tX (bL tX (x::l)) 0 (x::l).length)) (Bool.and true (okS tX (bL tX (x::l)) 0 (x::l).length))=_
  rw[ic2,wc9]
  rfl
theorem yb8 {ρ:Type} (R:RR ρ) {x:b7×List b8} {r:ρ} (h:R.rd x=some r):aa3 R (some x)=r:=by
 show Option.rec (motive:=fun _=>ρ) R.d (fun x=>x) (R.rd x)=r
 rw[h]
theorem Sb6 {ρ:Type} (R:RR ρ) {x:b7×List b8} {r:ρ} (h:R.rd x=some r):okO R (some x)=true:=by
 show Option.rec (motive:=fun _=>Bool) false (fun _=>true) (R.rd x)=true
 rw[h]
noncomputable def sd3 (x:Pt):List b7:=[i x.px,i x.py,i x.pz,i x.pw,b true]
noncomputable def cc2 (l:List Pt):List (List b7):=l.map sd3
@[reducible] noncomputable def flK:List (Nat×CK):=[(0,(.int .i64)),(1,(.int .i64)),(2,(.int .i64)),(3,(.int .i64))]
theorem Td6 (x q:Pt):Ub8 flK [i x.px,i x.py,i x.pz,i x.pw] (sd3 q)=eqX x q:=by
 show Bool.and (decide (x.px=q.px)) (Bool.and (decide (x.py=q.py)) (Bool.and (decide (x.pz=q.pz)) (Bool.and (decide (x.pw=q.pw)) true)))=_
 unfold eqX
 have h:∀ a c:Int,decide (a=c)=(c==a):=fun a c=>by rw[Bool.eq_iff_iff,decide_eq_true_eq,beq_iff_eq];exact eq_comm
 rw[h,h,h,h]
theorem jd6 (x:Pt):∀ l,ab7 4 flK [i x.px,i x.py,i x.pz,i x.pw] (cc2 l)=rc9 l x
 | []=>rfl
 | q::l=>by
  have ih:=jd6 x l
  unfold ab7 at ih ⊢
  show Option.rec (motive:=fun _=>Bool) false (fun r=>toB (hdA (g9 r 4))) (Bool.rec (motive:=fun _=>Option (List b7)) (Ac5 flK [i x.px,i x.py,i x.pz,i x.pw] (cc2 l)) (some (sd3 q)) (Ub8 flK [i x.px,i x.py,i x.pz,i x.pw] (sd3 q)))=rc9 (q::l) x
  rw[Td6]
  unfold rc9 at ih ⊢
  rw[List.any_cons]
  cases eqX x q with
  | true=>rfl
  | false=>exact ih
theorem Ad2 (x:Pt):∀ l,rc9 l x=false→ia2 flK [i x.px,i x.py,i x.pz,i x.pw] (sd3 x) (cc2 l)=cc2 (l++[x])
 | [],_=>rfl
 | q::l,h=>by
  unfold rc9 at h
  rw[List.any_cons,Bool.or_eq_false_iff] at h
  show Bool.rec (motive:=fun _=>List (List b7)) (sd3 q::ia2 flK [i x.px,i x.py,i x.pz,i x.pw] (sd3 x) (cc2 l)) (sd3 x::cc2 l) (Ub8 flK [i x.px,i x.py,i x.pz,i x.pw] (sd3 q))=_
  rw[Td6,h.1,Ad2 x l h.2]
  rfl
@[reducible] noncomputable def sc0 (k:Nat) (out:List Pt):i7:=⟨ph out,(k:Int),out.length,bL tX out,cc2 out⟩
structure C2 (P:i6) (r:List Pln) (p q:Pln) (lo:Nat):Prop where
 ns:P.he5=(r.drop lo).length
 gs:P.ub0=fun k=>tP.row (gL tP r (lo+k))
 is:P.Md0=((r.drop lo).length:Int)
 p1:(⟨⟨P.J4,P.J5,P.J6⟩,P.da0⟩:Pln)=p
 q1:(⟨⟨P.qa4,P.qa5,P.qa6⟩,P.yb5⟩:Pln)=q
 r1:P.Ea6=r
theorem Id1 (s:Pln):(⟨⟨toI (hdA (tP.row s)),toI (hdA (tlA (tP.row s))),toI (hdA (tlA (tlA (tP.row s))))⟩,toI (hdA (tlA (tlA (tlA (tP.row s)))))⟩:Pln)=s:=rfl
theorem jd7 (s:Pln):((Nat.ble 4 (len (tP.row s)))&&(ia5 [(CK.int .i64),(CK.int .i64),(CK.int .i64),(CK.int .i64)] (tP.row s)))=true:=rfl
theorem Ve1 {P : i6} {r : List Pln} {p q : Pln} {lo : Nat} (h : C2 P r p q lo) (hb : Bds r) (hr : r.length ≤ 200) (hp : Bd p) (hq : Bd q) (k : Nat) (out : List Pt) (ho : out.length ≤ 1000000000) (hk : k < (r.drop lo).length) :
  A1 P (sc0 k out)=.next (sc0 (k+1) (Za2 r p q out (r.drop lo)[k])):=by
 have hwi:∀ x,fa5 r x=inn r x:=fun x=>id8 r x (by omega)
 have hwg:∀ x,fa6 r x=true:=fun x=>id9 r x (by omega)
 have hs:gL tP r (lo+k)=(r.drop lo)[k]:=by rw[← ad6,gb0 tP hk]
 have hbs:Bd (r.drop lo)[k]:=hb _ (List.mem_of_mem_drop (List.getElem_mem hk))
 have hd:(r.drop lo).length≤200:=by rw[List.length_drop];omega
 have hme:=lf4 hp hq hbs
 have hmg:=lf5 hp hq hbs
 obtain⟨x1,x2,x3,x4,x5,x6,x7,x8,x9,x10,x11,x12,x13,x14,x15,x16,x17,x18,x19,x20,x21⟩:=P
 obtain⟨ns,gs,is,p1,q1,r1⟩:=h
 simp only at ns gs is p1 q1 r1
 have r1:=r1.symm
 subst ns gs is r1
 unfold A1
 cases out with
 | nil =>
  show B1 Stp.next Stp.exit Stp.fail _ (sc0 k [])=_
  simp only[B1,sc0,Int.toNat_natCast,l6,sa1,p1,q1,hs,Id1,jd7,hme,hmg,hwi,hwg,q7 hk (by omega)]
  rw[btD (m0 hk),bt (f8 hk),w6,w6]
  unfold Za2
  rw[Ee5]
  cases (mpt p q (r.drop lo)[k]).2 with
  | false=>rfl
  | true =>
   cases inn r (mpt p q (r.drop lo)[k]).1 with
   | false=>rfl
   | true=>rfl
 | cons o os =>
  show B3 Stp.next Stp.exit Stp.fail _ (sc0 k (o::os))=_
  simp only[B3,sc0,Int.toNat_natCast,l6,sa1,p1,q1,hs,Id1,jd7,hme,hmg,hwi,hwg,q7 hk (by omega),jd6]
  rw[btD (m0 hk),bt (f8 hk),w6,w6,Ee6 rfl ho,Ve0]
  unfold Za2
  cases (mpt p q (r.drop lo)[k]).2 with
  | false=>rfl
  | true =>
   cases hx:rc9 (o::os) (mpt p q (r.drop lo)[k]).1 with
   | true=>rfl
   | false =>
    cases inn r (mpt p q (r.drop lo)[k]).1 with
    | false=>rfl
    | true =>
     show Stp.next (⟨1,((k+1:Nat):Int),(o::os).length+1,bL tX (o::os++[(mpt p q (r.drop lo)[k]).1]),ia2 flK [i (mpt p q (r.drop lo)[k]).1.px,i (mpt p q (r.drop lo)[k]).1.py,i (mpt p q (r.drop lo)[k]).1.pz,i (mpt p q (r.drop lo)[k]).1.pw] (sd3 (mpt p q (r.drop lo)[k]).1) (cc2 (o::os))⟩:i7)=_
     rw[Ad2 _ _ hx]
     simp[ph]
theorem lf8 {P:i6} {r:List Pln} {p q:Pln} {lo:Nat} (h:C2 P r p q lo) (k:Nat) (out:List Pt) (hk:(r.drop lo).length≤k):A1 P (sc0 k out)=.exit (ph out+1):=by
 obtain⟨x1,x2,x3,x4,x5,x6,x7,x8,x9,x10,x11,x12,x13,x14,x15,x16,x17,x18,x19,x20,x21⟩:=P
 obtain⟨ns,gs,is,p1,q1,r1⟩:=h
 simp only at ns gs is p1 q1 r1
 have r1:=r1.symm
 subst ns gs is r1
 unfold A1
 have this:¬ ((k:Int) < ((r.drop lo).length:Int)):=by omega
 cases out with
 | nil =>
  show B1 Stp.next Stp.exit Stp.fail _ (sc0 k [])=_
  simp only[B1,sc0]
  rw[bfD this]
  rfl
 | cons o os =>
  show B3 Stp.next Stp.exit Stp.fail _ (sc0 k (o::os))=_
  simp only[B3,sc0]
  rw[bfD this]
  rfl
theorem Ve2 {P : i6} {r : List Pln} {p q : Pln} {lo : Nat} (h : C2 P r p q lo) (hb : Bds r) (hr : r.length ≤ 200) (hp : Bd p) (hq : Bd q) (out : List Pt) (ho : out.length ≤ 100000000) :
  ∃ m,lp (A1 P) (sc0 0 out)=(ph (Yb4 r p q (r.drop lo) out)+1,sc0 m (Yb4 r p q (r.drop lo) out)):=by
 have hd:(r.drop lo).length≤200:=by rw[List.length_drop];omega
 exact⟨_,(Sb5 (mk:=sc0) (f:=fun s _ out=>Za2 r p q out s) (g:=fun l out=>Yb4 r p q l out) (fin:=fun out=>ph out+1) (r.drop lo) (fun j o=>o.length≤out.length+j) (by omega)
  (fun _=>rfl) (fun _ _ _=>rfl) (fun j o hj hi=>⟨Ve1 h hb hr hp hq j o (by omega) hj,by have:=Ad1 r p q o (r.drop lo)[j];show (Za2 r p q o (r.drop lo)[j]).length≤out.length+(j+1);omega⟩)
  (fun j o hj _=>lf8 h j o hj) 0 out (by omega)).1⟩
@[reducible] noncomputable def sc1 (r:List Pln) (j:Nat) (out:List Pt):j7:=⟨ph out,r,(j:Int),r,r,out.length,bL tX out,cc2 out⟩
structure C1 (P:i8) (r:List Pln) (p:Pln) (a:Nat):Prop where
 i3:P.is3=(a:Int)
 ns:P.Jc2=(r.drop (a+1)).length
 gs:P.yb4=fun k=>tP.row (gL tP r (a+1+k))
 is:P.ua3=((r.drop (a+1)).length:Int)
 p1:(⟨⟨P.J4,P.J5,P.J6⟩,P.da0⟩:Pln)=p
theorem Ve3 {P : i8} {r : List Pln} {p : Pln} {a : Nat} (h : C1 P r p a) (hb : Bds r) (hr : r.length ≤ 200) (hp : Bd p) (j : Nat) (out : List Pt) (ho : out.length ≤ 100000000) (hj : j < (r.drop (a + 1)).length) :
  A2 P (sc1 r j out)=.next (sc1 r (j+1) (Yb4 r p (r.drop (a+1))[j] ((r.drop (a+1)).drop (j+1)) out)):=by
 have hs:gL tP r (a+1+j)=(r.drop (a+1))[j]:=by rw[← ad6,gb0 tP hj]
 have hbs:Bd (r.drop (a+1))[j]:=hb _ (List.mem_of_mem_drop (List.getElem_mem hj))
 have hd:=hj
 rw[List.length_drop] at hd
 have hW:W (W ((a:Int)+(j:Int))+2)=((a+1+(j+1):Nat):Int):=by rw[Nb3,na5 (by omega) (by omega)];omega
 have hdl:(r.drop (a+1)).length≤4611686018427387904:=by rw[List.length_drop];omega
 have hlo:inB ((a+1+(j+1):Nat):Int) (r.length+1)=true:=f8 (by omega)
 rw[List.drop_drop]
 generalize hq:(r.drop (a+1))[j]=q at *
 obtain⟨x1,x2,x3,x4,x5,x6,x7,x8,x9,x10⟩:=P
 obtain⟨i3,ns,gs,is,p1⟩:=h
 simp only at i3 ns gs is p1
 subst i3 ns gs is
 unfold A2
 have key:∀ (P2:i6),C2 P2 r p q (a+1+(j+1))→_:=fun P2 h2=>Ve2 h2 hb hr hp hbs out ho
 cases out with
 | nil =>
  show B4 Stp.next Stp.exit Stp.fail _ (sc1 r j [])=_
  simp only[B4,sc1,l6,j9,q7 hj hdl,hW,Int.toNat_natCast,hs,jd7,hlo]
  rw[show (⟨0,0,0,[],[]⟩:i7)=sc0 0 [] from rfl]
  generalize hP:i6.mk _ _ _ _ _ _ _ _ _ _ _ _ _ _ _ _ _ _ _ _ _=P2
  obtain⟨m,hm⟩:=key P2 (by
   subst hP
   exact⟨by simp,rfl,by simp,p1,Id1 q,rfl⟩)
  rw[hm,btD (m0 hj),bt (f8 hj)]
  cases Yb4 r p q (r.drop (a+1+(j+1))) []<;>rfl
 | cons o os =>
  show B5 Stp.next Stp.exit Stp.fail _ (sc1 r j (o::os))=_
  simp only[B5,sc1,l6,j9,q7 hj hdl,hW,Int.toNat_natCast,hs,jd7,hlo]
  rw[show (⟨1,0,(o::os).length,bL tX (o::os),cc2 (o::os)⟩:i7)=sc0 0 (o::os) from rfl]
  generalize hP:i6.mk _ _ _ _ _ _ _ _ _ _ _ _ _ _ _ _ _ _ _ _ _=P2
  obtain⟨m,hm⟩:=key P2 (by
   subst hP
   exact⟨by simp,rfl,by simp,p1,Id1 q,rfl⟩)
  rw[hm,btD (m0 hj),bt (f8 hj)]
  cases Yb4 r p q (r.drop (a+1+(j+1))) (o::os)<;>rfl
theorem lf9 {P:i8} {r:List Pln} {p:Pln} {a:Nat} (h:C1 P r p a) (j:Nat) (out:List Pt) (hj:(r.drop (a+1)).length≤j):A2 P (sc1 r j out)=.exit (ph out+1):=by
 obtain⟨x1,x2,x3,x4,x5,x6,x7,x8,x9,x10⟩:=P
 obtain⟨i3,ns,gs,is,p1⟩:=h
 simp only at i3 ns gs is p1
 subst i3 ns gs is
 unfold A2
 have this:¬ ((j:Int) < ((r.drop (a+1)).length:Int)):=by omega
 cases out with
 | nil =>
  show B4 Stp.next Stp.exit Stp.fail _ (sc1 r j [])=_
  simp only[B4,sc1]
  rw[bfD this]
  rfl
 | cons o os =>
  show B5 Stp.next Stp.exit Stp.fail _ (sc1 r j (o::os))=_
  simp only[B5,sc1]
  rw[bfD this]
  rfl
theorem Ve4 {P : i8} {r : List Pln} {p : Pln} {a : Nat} (h : C1 P r p a) (hb : Bds r) (hr : r.length ≤ 200) (hp : Bd p) (out : List Pt) (ho : out.length ≤ 10000000) :
  ∃ m,lp (A2 P) (sc1 r 0 out)=(ph (Hb9 r p (r.drop (a+1)) out)+1,sc1 r m (Hb9 r p (r.drop (a+1)) out)):=by
 have hd:(r.drop (a+1)).length≤200:=by rw[List.length_drop];omega
 exact⟨_,(Sb5 (mk:=sc1 r) (f:=fun q l out=>Yb4 r p q l out) (g:=fun l out=>Hb9 r p l out) (fin:=fun out=>ph out+1) (r.drop (a+1)) (fun k o=>o.length≤out.length+200*k) (by omega)
  (fun _=>rfl) (fun _ _ _=>rfl) (fun k o hj hi=>⟨Ve3 h hb hr hp k o (by omega) hj,by
   have:=jd4 r p (r.drop (a+1))[k] ((r.drop (a+1)).drop (k+1)) o
   rw[List.length_drop] at this
   show (Yb4 r p (r.drop (a+1))[k] ((r.drop (a+1)).drop (k+1)) o).length≤out.length+200*(k+1)
   omega⟩)
  (fun k o hj _=>lf9 h k o hj) 0 out (by omega)).1⟩
@[reducible] noncomputable def yc1 (r:List Pln) (j:Nat) (out:List Pt):l7:=⟨ph out,r,(j:Int),r,r,out.length,bL tX out,cc2 out⟩
theorem Ve5 {P : q9} (r : List Pln) (h : P.o9 = (r.length : Int)) (hb : Bds r) (hr : r.length ≤ 200) (a : Nat) (ha : a < r.length) (out : List Pt) (ho : out.length ≤ 40000 * a) :
  A3 P (yc1 r a out)=.next (yc1 r (a+1) (Hb9 r r[a] (r.drop (a+1)) out)):=by
 have hbs:Bd r[a]:=hb _ (List.getElem_mem ha)
 have hlo:inB ((a+1:Nat):Int) (r.length+1)=true:=f8 (by omega)
 have key:∀ (P2:i8),C1 P2 r r[a] a→_:=fun P2 h2=>Ve4 h2 hb hr hbs out (by omega)
 obtain⟨x1⟩:=P
 simp only at h
 subst h
 unfold A3
 cases out with
 | nil =>
  show B6 Stp.next Stp.exit Stp.fail _ (yc1 r a [])=_
  simp only[B6,yc1,l6,j9,q7 ha (by omega),Int.toNat_natCast,hlo,gb0 tP ha]
  rw[show (⟨0,r,0,r,r,0,[],[]⟩:j7)=sc1 r 0 [] from rfl]
  generalize hP:i8.mk _ _ _ _ _ _ _ _ _ _=P2
  obtain⟨m,hm⟩:=key P2 (by
   subst hP
   exact⟨rfl,by simp,rfl,by simp,rfl⟩)
  rw[hm,btD (m0 ha),bt (f8 ha)]
  cases Hb9 r r[a] (r.drop (a+1)) []<;>rfl
 | cons o os =>
  show B7 Stp.next Stp.exit Stp.fail _ (yc1 r a (o::os))=_
  simp only[B7,yc1,l6,j9,q7 ha (by omega),Int.toNat_natCast,hlo,gb0 tP ha]
  rw[show (⟨1,r,0,r,r,(o::os).length,bL tX (o::os),cc2 (o::os)⟩:j7)=sc1 r 0 (o::os) from rfl]
  generalize hP:i8.mk _ _ _ _ _ _ _ _ _ _=P2
  obtain⟨m,hm⟩:=key P2 (by
   subst hP
   exact⟨rfl,by simp,rfl,by simp,rfl⟩)
  rw[hm,btD (m0 ha),bt (f8 ha)]
  cases Hb9 r r[a] (r.drop (a+1)) (o::os)<;>rfl
theorem mf0 {P:q9} (r:List Pln) (h:P.o9=(r.length:Int)) (j:Nat) (out:List Pt) (hj:r.length≤j):A3 P (yc1 r j out)=.exit (ph out+1):=by
 obtain⟨x1⟩:=P
 simp only at h
 subst h
 unfold A3
 have this:¬ ((j:Int) < (r.length:Int)):=by omega
 cases out with
 | nil =>
  show B6 Stp.next Stp.exit Stp.fail _ (yc1 r j [])=_
  simp only[B6,yc1]
  rw[bfD this]
  rfl
 | cons o os =>
  show B7 Stp.next Stp.exit Stp.fail _ (yc1 r j (o::os))=_
  simp only[B7,yc1]
  rw[bfD this]
  rfl
theorem Ve6 (r:List Pln) (hb:Bds r) (hr:r.length≤200):∃ m,lp (A3 ⟨(r.length:Int)⟩) (yc1 r 0 [])=(ph (cor r)+1,yc1 r m (cor r)) :=
 ⟨_,(Sb5 (step:=A3 ⟨(r.length:Int)⟩) (mk:=yc1 r) (f:=fun q l out=>Hb9 r q l out) (g:=fun l out=>Mc9 r l out) (fin:=fun out=>ph out+1) r (fun k o=>o.length≤40000*k) (by omega)
  (fun _=>rfl) (fun _ _ _=>rfl) (fun k o hj hi=>⟨Ve5 r rfl hb hr k hj o hi,by
   have h1:=jd5 r r[k] (r.drop (k+1)) o (by rw[List.length_drop];omega)
   rw[List.length_drop] at h1
   show (Hb9 r r[k] (r.drop (k+1)) o).length≤40000*(k+1)
   omega⟩)
  (fun k o hj _=>mf0 r rfl k o hj) 0 [] (by simp)).1⟩
theorem jd8 (r:List Pln) (hb:Bds r) (hr:r.length≤200):da2 r=some (slX (cor r)):=by
 obtain⟨m,hm⟩:=Ve6 r hb hr
 unfold da2
 simp only[l6,j9]
 rw[show (⟨0,r,0,r,r,0,[],[]⟩:l7)=yc1 r 0 [] from rfl,hm]
 cases cor r<;>rfl
theorem Ad3 (r:List Pln) (hb:Bds r) (hr:r.length≤200):da3 r=cor r:=by unfold da3;rw[jd8 r hb hr];exact yb8 _ (Ee7 _)
theorem Ad4 (r:List Pln) (hb:Bds r) (hr:r.length≤200):da4 r=true:=by unfold da4;rw[jd8 r hb hr];exact Sb6 _ (Ee7 _)
end Go.Ev.Ce
namespace Go.Ev.Ce
open Go Go.Ev Go.Ev.L Go.Proofs
noncomputable def slP (l:List Pln):b7×List b8:=(.sl 0 0 l.length 0,[⟨50,4,bL tP l,true,false,0⟩])
theorem Ee8 (l:List Pln):(one (r1L tP)).rd (slP l)=some l:=by
 show Bool.rec (motive:=fun _=>Option (List Pln)) none (some (slR tP (bL tP l) 0 l.length)) (Bool.and true (okS tP (bL tP l) 0 l.length))=_
 rw[ic2,wc9]
 rfl
theorem yf7 {α:Type} (t:Ty α) (l:List α):(one (r1L t)).rd (eL t l,[])=some l:=by
 show Bool.rec (motive:=fun _=>Option (List α)) none (some (rt t l)) (Bool.and (Nat.beq t.es t.es) (okE t l))=_
 rw[l6,sa1,Nat.beq_refl]
 rfl
noncomputable def ws:List Pln:=[⟨⟨1,0,0⟩,24⟩,⟨⟨-1,0,0⟩,24⟩,⟨⟨0,1,0⟩,24⟩,⟨⟨0,-1,0⟩,24⟩,⟨⟨0,0,1⟩,24⟩,⟨⟨0,0,-1⟩,24⟩]
theorem ff0:Bds ws:=by
 intro p hp
 have:okp p=true:=by
  have h:ws.all okp=true:=by decide
  exact List.all_eq_true.1 h p hp
 exact Yb3 this
theorem Ee9 {l:List (List Pln)} {j:Nat} (h:j < l.length):gL (tLs tP) l j=l[j]:=gb0 (tLs tP) h
theorem Fe0 (ls:List (List Pln)) (hn:ls.length≤1000000000) (hl:ls.flatten.length≤1000000000):∃ m,lp (K9 ⟨ls,ls,(ls.length:Int)⟩) ⟨0,0⟩=(1,⟨(ls.flatten.length:Int),m⟩):=by
 have h:=Sb5 (step:=K9 ⟨ls,ls,(ls.length:Int)⟩) (mk:=fun j (n:Nat)=>(⟨(n:Int),(j:Int)⟩:w9)) (f:=fun l _ n=>n+l.length) (g:=fun l n=>n+l.flatten.length) (fin:=fun _=>1) ls
  (fun j n=>n+(ls.drop j).flatten.length=ls.flatten.length) hn (fun _=>rfl) (fun x r a=>by simp only[List.flatten_cons,List.length_append];omega)
  (fun j n hj hi=>by
   rw[List.drop_eq_getElem_cons hj,List.flatten_cons,List.length_append] at hi
   have hW:W ((n:Int)+(ls[j].length:Int))=((n+ls[j].length:Nat):Int):=by rw[na5 (by omega) (by omega)];omega
   refine⟨?_,by show n+ls[j].length+(ls.drop (j+1)).flatten.length=_;omega⟩
   simp only[K9,R2,Int.toNat_natCast,Ee9 hj,hW,q7 hj (by omega)]
   rw[btD (m0 hj),bt (f8 hj),bfD (by omega)])
  (fun j n hj _=>by
   simp only[K9,R2]
   rw[bfD (by omega)]) 0 0 (by simp)
 have h:=h.1
 rw[List.drop_zero,Nat.zero_add] at h
 exact⟨_,h⟩
theorem Fe1 {ls:List (List Pln)} (h:ls.flatten=[]) {j:Nat} (hj:j < ls.length):ls[j]=[]:=by
 rw[List.flatten_eq_nil_iff] at h
 exact h _ (List.getElem_mem hj)
theorem Ve7 (ls:List (List Pln)) (hn:ls.length≤1000000000) (hl:ls.flatten=[]):∃ s,lp (D5 ⟨ls,(ls.length:Int)⟩) ⟨0,0,0,[]⟩=(1,s):=by
 have h:=Sb5 (step:=D5 ⟨ls,(ls.length:Int)⟩) (mk:=fun j (_:Unit)=>(⟨0,(j:Int),0,[]⟩:k9)) (f:=fun _ _ n=>n) (g:=fun _ n=>n) (fin:=fun _=>1) ls
  (fun _ _=>True) hn (fun _=>rfl) (fun x r a=>rfl)
  (fun j n hj hi=>by
   refine⟨?_,trivial⟩
   show B9 Stp.next Stp.exit Stp.fail _ _=_
   simp only[B9,Int.toNat_natCast,Ee9 hj,Fe1 hl hj,q7 hj (by omega)]
   rw[btD (m0 hj),bt (f8 hj)]
   rfl)
  (fun j n hj _=>by
   show B9 Stp.next Stp.exit Stp.fail _ _=_
   simp only[B9]
   rw[bfD (by omega)]) 0 () trivial
 exact⟨_,h.1⟩
noncomputable def Ob9 (t:Nat) (d:List Pln):List (List b7):=app (bL tP d) (List.replicate (t - d.length) Hd4)
theorem Fe2 (t:Nat) (d:List Pln) (h:d.length≤t):len (Ob9 t d)=t:=by
 unfold Ob9
 rw[J0,m9,List.length_append,← m9,na4,List.length_replicate]
 omega
theorem Fe3 (t:Nat) (d l:List Pln) (h:d.length+l.length≤t):app (J7 (Ob9 t d) d.length) (app (bL tP l) (g9 (Ob9 t d) (d.length+len (bL tP l))))=Ob9 t (d++l):=by
 have hd:(bL tP d).length=d.length:=by rw[← m9,na4]
 unfold Ob9
 rw[na4,← Ma0]
 simp only[J0,L6,L7]
 rw[List.take_left' hd,List.append_assoc]
 congr 2
 rw[List.drop_append,List.drop_eq_nil_of_le (by omega),List.nil_append,hd,List.drop_replicate,List.length_append]
 congr 1
 omega
theorem Fe4 (ls:List (List Pln)) (hn:ls.length≤1000000000):∃ m,lp (D5 ⟨ls,(ls.length:Int)⟩) ⟨1,0,0,List.replicate ls.flatten.length Hd4⟩=(2,⟨1,m,ls.flatten.length,bL tP ls.flatten⟩):=by
 have h:=Sb5 (step:=D5 ⟨ls,(ls.length:Int)⟩) (mk:=fun j (d:List Pln)=>(⟨1,(j:Int),d.length,Ob9 ls.flatten.length d⟩:k9)) (f:=fun l _ d=>d++l) (g:=fun l d=>d++l.flatten) (fin:=fun _=>2) ls
  (fun j d=>d.length+(ls.drop j).flatten.length=ls.flatten.length) hn (fun _=>by simp) (fun x r a=>by simp)
  (fun j d hj hi=>by
   rw[List.drop_eq_getElem_cons hj,List.flatten_cons,List.length_append] at hi
   refine⟨?_,by show (d++ls[j]).length+(ls.drop (j+1)).flatten.length=_;rw[List.length_append];omega⟩
   show C0 Stp.next Stp.exit Stp.fail _ _=_
   simp only[C0,Int.toNat_natCast,Ee9 hj,q7 hj (by omega),fd6]
   rw[Fe3 _ _ _ (by omega),Fe2 _ _ (by omega),na4,btD (m0 hj),bt (f8 hj),bt (by rw[Nat.ble_eq];omega),List.length_append])
  (fun j d hj _=>by
   show C0 Stp.next Stp.exit Stp.fail _ _=_
   simp only[C0]
   rw[bfD (by omega)]) 0 [] (by simp)
 have h:=h.1
 rw[List.drop_zero,List.nil_append] at h
 have e:Ob9 ls.flatten.length ls.flatten=bL tP ls.flatten:=by unfold Ob9;rw[Nat.sub_self,J0];simp
 rw[e] at h
 exact⟨_,h⟩
theorem ff1 (ls:List (List Pln)) (hn:ls.length≤1000000000) (hl:ls.flatten.length≤1000000000):Sb2 ls=some (slP (ls.flatten++ws)):=by
 have hc:ua6 ls=if ls.flatten=[] then ⟨1,0,[]⟩ else ⟨2,ls.flatten.length,bL tP ls.flatten⟩:=by
  unfold ua6 S6
  simp only[l6,j9]
  obtain⟨m,hm⟩:=Fe0 ls hn hl
  rw[hm]
  by_cases h0:ls.flatten=[]
  ·obtain⟨s,hs⟩:=Ve7 ls hn h0
   rw[if_pos h0,hs]
   rw[show (⟨(ls.flatten.length:Int),m⟩:w9)=⟨0,m⟩ by rw[h0];rfl]
   rfl
  ·obtain⟨m',hm'⟩:=Fe4 ls hn
   rw[if_neg h0]
   simp only[Int.toNat_natCast]
   rw[hm']
   have h1:0 < ls.flatten.length:=List.length_pos_iff.2 h0
   have e1:((ls.flatten.length:Int)==0)=false:=by rw[beq_eq_false_iff_ne];omega
   have e2:Bool.and (decide ((0:Int) < (ls.flatten.length:Int))) (Nat.ble (ls.flatten.length*32) room)=true:=by
    rw[Cc8 (by omega),decide_eq_true (by omega)]
    rfl
   rw[e1,e2]
   rfl
 unfold Sb2
 simp only[l6,sa1,hc]
 by_cases h0:ls.flatten=[]
 ·rw[if_pos h0,h0];rfl
 ·rw[if_neg h0]
  generalize ls.flatten=c at *
  have e:∀ (d:List Pln) (p:Pln),app (bL tP d) [[i p.n.x,i p.n.y,i p.n.z,i p.b]]=bL tP (d++[p]):=fun d p=>Ma0 tP d [p]
  have c1:=e c ⟨⟨1,0,0⟩,24⟩
  have c2:=e (c++[⟨⟨1,0,0⟩,24⟩]) ⟨⟨-1,0,0⟩,24⟩
  have c3:=e (c++[⟨⟨1,0,0⟩,24⟩]++[⟨⟨-1,0,0⟩,24⟩]) ⟨⟨0,1,0⟩,24⟩
  have c4:=e (c++[⟨⟨1,0,0⟩,24⟩]++[⟨⟨-1,0,0⟩,24⟩]++[⟨⟨0,1,0⟩,24⟩]) ⟨⟨0,-1,0⟩,24⟩
  have c5:=e (c++[⟨⟨1,0,0⟩,24⟩]++[⟨⟨-1,0,0⟩,24⟩]++[⟨⟨0,1,0⟩,24⟩]++[⟨⟨0,-1,0⟩,24⟩]) ⟨⟨0,0,1⟩,24⟩
  have c6:=e (c++[⟨⟨1,0,0⟩,24⟩]++[⟨⟨-1,0,0⟩,24⟩]++[⟨⟨0,1,0⟩,24⟩]++[⟨⟨0,-1,0⟩,24⟩]++[⟨⟨0,0,1⟩,24⟩]) ⟨⟨0,0,-1⟩,24⟩
  simp only at c1 c2 c3 c4 c5 c6
  simp only[c1,c2,c3,c4,c5,c6,na4,List.length_append,List.length_singleton]
  have g:∀ n:Nat,n≤1000000010→(Nat.beq n n&&Nat.ble ((n+1)*32) room)=true:=fun n h=>by rw[Nat.beq_refl,Cc8 (by omega)];rfl
  rw[g _ (by omega),g _ (by omega),g _ (by omega),g _ (by omega),g _ (by omega),g _ (by omega)]
  show some (b7.sl 0 0 (c.length+1+1+1+1+1+1) 0,[(⟨50,4,bL tP _,true,false,0⟩:b8)])=_
  unfold slP
  rw[List.length_append]
  simp only[List.append_assoc]
  rfl
theorem yf8 (ls:List (List Pln)) (hn:ls.length≤1000000000) (hl:ls.flatten.length≤1000000000):ib6 ls=ls.flatten++ws:=by unfold ib6;rw[ff1 ls hn hl];exact yb8 _ (Ee8 _)
theorem yf9 (ls:List (List Pln)) (hn:ls.length≤1000000000) (hl:ls.flatten.length≤1000000000):ib7 ls=true:=by unfold ib7;rw[ff1 ls hn hl];exact Sb6 _ (Ee8 _)
theorem ff2 (c:List Pln) (hc:c.length≤1000000000):ib6 [c]=c++ws:=by
 have:[c].flatten=c:=by simp
 rw[yf8 [c] (by simp) (by rw[this];exact hc),this]
theorem ff3 (c:List Pln) (hc:c.length≤1000000000):ib7 [c]=true:=by
 have:[c].flatten=c:=by simp
 exact yf9 [c] (by simp) (by rw[this];exact hc)
theorem Ad5 (ls:List (List Pln)) (hn:ls.length≤1000000000) (hl:∀ c∈ls,c.length≤1000000000):cb9 ls=some (b (ls.all fun c=>chk c==0),[]):=by
 have hv:∀ c∈ls,cb7 c=!(chk c==0)∧cb8 c=true:=fun c hc=>by
  have:Na0 c=some (b (!(chk c==0)),[]):=by
   unfold Na0
   simp only[l6,sa1,le0 c (hl c hc),le1 c (hl c hc)]
   rfl
  unfold cb7 cb8
  rw[this]
  exact⟨rfl,rfl⟩
 have h:=Fa2 (step:=K2 ⟨ls,(ls.length:Int)⟩) (mk:=fun j=>(⟨(j:Int)⟩:o4)) (c:=fun c=>!(chk c==0)) (u:=1) (fin:=2) (tLs tP) ls hn
  (fun j hj=>by
   have hm:=hv _ (Ab1 (tLs tP) hj)
   simp only[K2,G8,Int.toNat_natCast,l6,sa1,hm.1,hm.2,q7 hj (by omega)]
   rw[btD (m0 hj),bt (f8 hj),w6,w6])
  (by simp only[K2,G8];rw[bfD (A7 (Nat.lt_irrefl _))]) 0 (Nat.zero_le _)
 rw[List.drop_zero] at h
 have e:(ls.any fun c=>!(chk c==0))=!ls.all fun c=>chk c==0:=by rw[List.not_all_eq_any_not]
 unfold cb9 la7 C6 va4 I0
 simp only[l6,j9]
 rw[show (⟨0⟩:o4)=⟨((0:Nat):Int)⟩ from rfl,h,e]
 cases ls.all fun c=>chk c==0 with
 | true=>rfl
 | false =>
  simp only[Bool.not_false,if_true,Nat.zero_add]
  show sl true (sl (Nat.beq 1 1) (some (b (!(decide (((ls.findIdx fun c=>!(chk c==0):Nat):Int)≥0))),[])) _) _=_
  rw[show decide (((ls.findIdx fun c=>!(chk c==0):Nat):Int)≥0)=true from decide_eq_true (by omega)]
  rfl
theorem Td7 (ls:List (List Pln)) (hn:ls.length≤1000000000) (hl:∀ c∈ls,c.length≤1000000000):oa0 ls=ls.all fun c=>chk c==0:=by unfold oa0;rw[Ad5 ls hn hl];rfl
theorem Td8 (ls:List (List Pln)) (hn:ls.length≤1000000000) (hl:∀ c∈ls,c.length≤1000000000):oa1 ls=true:=by unfold oa1;rw[Ad5 ls hn hl];rfl
theorem Ec9 (c:List Pln) (hc:c.length≤1000000000):oa0 [c]=(chk c==0):=by
 rw[Td7 [c] (by simp) (by simpa using hc)]
 simp
theorem Fc0 (c:List Pln) (hc:c.length≤1000000000):oa1 [c]=true:=Td8 [c] (by simp) (by simpa using hc)
noncomputable def pos (X:List Pt) (p:Pln):Bool:=X.any fun x=>decide (rm p x > 0)
noncomputable def ee4 (r:List Pln):Bool:=r.all (pos (cor r))
theorem Fe5 (p:Pln) (X:List Pt) (hX:X.length≤1000000000):ya5 ⟨p.n.x,p.n.y,p.n.z,p.b,X⟩=⟨1,!pos X p⟩:=by
 have hw:∀ x:Pt,Fa5 ⟨x.px,x.py,x.pz,x.pw,p.n.x,p.n.y,p.n.z,p.b⟩=⟨decide (rm p x > 0)⟩:=fun x=>by
  show Y3.mk (decide (Ea9 p x > 0))=_
  rw[Hd6]
 have h:=Fa2 (step:=M2 ⟨X,(X.length:Int),p.n.x,p.n.y,p.n.z,p.b⟩) (mk:=fun j=>(⟨(j:Int)⟩:p7)) (c:=fun x=>decide (rm p x > 0)) (u:=1) (fin:=2) tX X hX
  (fun j hj=>by
   simp only[M2,K3,Int.toNat_natCast,hw,q7 hj (by omega)]
   rw[btD (m0 hj),bt (f8 hj)])
  (by simp only[M2,K3];rw[bfD (A7 (Nat.lt_irrefl _))]) 0 (Nat.zero_le _)
 rw[List.drop_zero] at h
 unfold ya5 W0 oa3 D8 Aa0 L0 pos
 simp only[l6,j9]
 rw[show (⟨0⟩:p7)=⟨((0:Nat):Int)⟩ from rfl,h]
 cases X.any fun x=>decide (rm p x > 0) with
 | false=>rfl
 | true =>
  simp only[if_true,Nat.zero_add]
  show ga7.mk 1 (!(decide (((X.findIdx fun x=>decide (rm p x > 0):Nat):Int)≥0)))=_
  rw[show decide (((X.findIdx fun x=>decide (rm p x > 0):Nat):Int)≥0)=true from decide_eq_true (by omega)]
theorem le3 (r:List Pln) (hb:Bds r) (hr:r.length≤200):sa9 r=some (b (ee4 r),[]):=by
 have hX:(cor r).length≤1000000000:=Nat.le_trans (le2 r hb hr) (by omega)
 have h:=Fa2 (step:=K4 ⟨r,(r.length:Int)⟩) (mk:=fun j=>(⟨(j:Int),cor r⟩:o5)) (c:=fun p=>!pos (cor r) p) (u:=1) (fin:=2) tP r (by omega)
  (fun j hj=>by
   simp only[K4,G9,Int.toNat_natCast,l6,j9,Fe5 _ _ hX,q7 hj (by omega)]
   rw[btD (m0 hj),bt (f8 hj)]
   rfl)
  (by simp only[K4,G9];rw[bfD (A7 (Nat.lt_irrefl _))]) 0 (Nat.zero_le _)
 rw[List.drop_zero] at h
 have e:(r.any fun p=>!pos (cor r) p)=!r.all (pos (cor r)):=by rw[List.not_all_eq_any_not]
 unfold sa9 la9 C7 va6 I1 ee4
 simp only[l6,j9,sa1,Ad3 r hb hr,Ad4 r hb hr]
 rw[show (⟨0,cor r⟩:o5)=⟨((0:Nat):Int),cor r⟩ from rfl,h,e]
 cases r.all (pos (cor r)) with
 | true=>rfl
 | false =>
  simp only[Bool.not_false,if_true,Nat.zero_add]
  show some (b (!(decide (((r.findIdx fun p=>!pos (cor r) p:Nat):Int)≥0))),[])=_
  rw[show decide (((r.findIdx fun p=>!pos (cor r) p:Nat):Int)≥0)=true from decide_eq_true (by omega)]
  rfl
theorem Fe6 (r:List Pln) (hb:Bds r) (hr:r.length≤200):ta0 r=ee4 r:=by unfold ta0;rw[le3 r hb hr];rfl
theorem Fe7 (r:List Pln) (hb:Bds r) (hr:r.length≤200):ta1 r=true:=by unfold ta1;rw[le3 r hb hr];rfl
theorem qc0 {c:List Pln} (h:(chk c==0)=true):Bds (c++ws)∧(c++ws).length≤200:=by
 rw[beq_iff_eq,jd3] at h
 refine⟨fun p hp=>?_,by rw[List.length_append,show ws.length=6 from rfl];omega⟩
 rcases List.mem_append.1 hp with hp | hp
 ·exact Yb3 (h.2 p hp)
 ·exact ff0 p hp
noncomputable def pts (c:List Pln):List Pt:=if chk c==0 then cor (c++ws) else []
noncomputable def ful (c:List Pln):Bool:=(chk c==0)&&ee4 (c++ws)
theorem Td9 {c:List Pln} (hc:c.length≤1000000000):∃ x,Ua2 c=some x∧(one (r1L tX)).rd x=some (pts c):=by
 unfold Ua2 pts
 simp only[l6,sa1,Ec9 c hc,Fc0 c hc,ff2 c hc,ff3 c hc]
 cases h:chk c==0 with
 | false=>exact⟨_,rfl,rfl⟩
 | true =>
  obtain⟨h1,h2⟩:=qc0 h
  rw[Ad3 _ h1 h2,Ad4 _ h1 h2]
  exact⟨_,rfl,yf7 tX _⟩
theorem ob4 {c:List Pln} (hc:c.length≤1000000000):T0 c=pts c:=by
 obtain⟨x,h1,h2⟩:=Td9 hc
 unfold T0;rw[h1];exact yb8 _ h2
theorem ob5 {c:List Pln} (hc:c.length≤1000000000):T1 c=true:=by
 obtain⟨x,h1,h2⟩:=Td9 hc
 unfold T1;rw[h1];exact Sb6 _ h2
theorem le4 {c:List Pln} (hc:c.length≤1000000000):ob3 c=some (b (ful c),[]):=by
 unfold ob3 ful
 simp only[l6,sa1,Ec9 c hc,Fc0 c hc,ff2 c hc,ff3 c hc]
 cases h:chk c==0 with
 | false=>rfl
 | true =>
  obtain⟨h1,h2⟩:=qc0 h
  rw[Fe6 _ h1 h2,Fe7 _ h1 h2]
  rfl
theorem kc7 {c:List Pln} (hc:c.length≤1000000000):ga9 c=ful c:=by unfold ga9;rw[le4 hc];rfl
theorem kc8 {c:List Pln} (hc:c.length≤1000000000):ha0 c=true:=by unfold ha0;rw[le4 hc];rfl
end Go.Ev.Ce
section
namespace Go.Ev.Ce
open Go Go.Ev Go.Ev.L Go.Proofs
set_option maxRecDepth 100000
structure Wa2 where
 is1:Int
 p4:List Int
 c7:Int
noncomputable def Nc0:List (Nat×Sum):=[(47,zd8)]
theorem Fc1:i4 prog G Nc0:=⟨ee2,trivial⟩
structure Wa3 where
 alt:Nat
 is0:Int
 c7:Int
noncomputable def xa0 {α:Type} (kk:Wa3→α) (x:Wa2):α:=let t1:=(pc7 (gL tI x.p4 (W ((W (x.c7+1)) - 1)).toNat) x.is1);(sl (decide (x.c7≥(↑(List.length x.p4):Int))) (kk ⟨1,0,x.c7⟩) (sl (inB (W ((W (x.c7+1)) - 1)) (List.length x.p4)) (sl (pc8 (gL tI x.p4 (W ((W (x.c7+1)) - 1)).toNat) x.is1) (kk ⟨1,t1,(W (x.c7+1))⟩) (kk ⟨0,0,0⟩)) (kk ⟨0,0,0⟩)))
noncomputable def E5 (x:Wa2):Wa3:=xa0 (fun r=>r) x
noncomputable def jb1 (x:Wa2) (r:Wa3):DT (b7×List b8):=(.ite (Nat.beq r.alt 1) (.ret ((i r.is0),[⟨0,2,[[(eL tI x.p4),(i r.c7)]],true,false,0⟩])) .fail)
theorem Wc5 {α β:Type} (F:α→β) (kk:Wa3→α) (x:Wa2):F (xa0 kk x)=xa0 (fun r=>F (kk r)) x:=by unfold xa0;(repeat' apply j5 (f:=F))<;>rfl
noncomputable def cc3:Sum:=za8 ⟨[(.s (.o (.ptr 0 0 0 0))),(.s (.o (.int .i64)))],[⟨0,2,true,(some [[(.c 1 (nL tI)),(.o (.int .i64))]])⟩],fun a H=>(⟨(toI (slT a 1)),(rL tI (slT (rwT (elT H 0) 0) 0)),(toI (slT (rwT (elT H 0) 0) 1))⟩,())⟩ (fun x=>jb1 x (E5 x))
theorem Nc1:g8 prog G 98 cc3:=w7 (enc:=fun x=>⟨[(.ptr 0 0 0 0),(i x.is1)],[⟨0,2,[[(eL tI x.p4),(i x.c7)]],true,false,0⟩]⟩) (fun a H=>by kernel_rfl) (bd b98 Fc1) fun x=>q8 (Eq.trans (b:=xa0 (fun r=>(jb1 x r).run) x) (by kernel_rfl) (Wc5 (fun r=>(jb1 x r).run) (fun r=>r) x).symm)
structure rf3 where
 is1:Int
 p4:List Int
 c7:Int
structure rf4 where
 alt:Nat
 va0:Int
 va1:Int
 va2:Int
 p4:List Int
 c7:Int
noncomputable def ee5:List (Nat×Sum):=[]
theorem Ud0:i4 prog G ee5:=trivial
noncomputable def jb2 (x:V3) (y:V3):V3:=(⟨(W (x.x - y.x)),(W (x.y - y.y)),(W (x.z - y.z))⟩:V3)
noncomputable def Ad6:Sum:=Sa3 (ua9 tV) (ua9 tV) (fun x y=>.ret ((one r1V).enc (jb2 x y),[]))
theorem ee6:g8 prog G 187 Ad6:=bb3 (bd If7 Ud0) fun x y=>q8 (by kernel_rfl)
noncomputable def te7:List (Nat×Sum):=[(166,Qa0)]
theorem ee7:i4 prog G te7:=⟨bb5,trivial⟩
noncomputable def kc9 (x:V3):Option (b7×List b8):=(sl (decide (x.x < (-24))) (some ((b false),[])) (sl (decide (x.x > 24)) (some ((b false),[])) (sl (decide (x.y < (-24))) (some ((b false),[])) (sl (decide (x.y > 24)) (some ((b false),[])) (sl (decide (x.z < (-24))) (some ((b false),[])) (sl (decide (x.z > 24)) (some ((b false),[])) (some ((b true),[]))))))))
noncomputable def Bb8 (x:V3):Bool:=aa3 (one r1B) (kc9 x)
noncomputable def Bb9 (x:V3):Bool:=okO (one r1B) (kc9 x)
noncomputable def jd9:Sum:=S5 (ua9 tV) (fun x=>.guard (Bb9 x) (.ret ((one r1B).enc (Bb8 x),[])))
theorem Ad7:g8 prog G 109 jd9:=Pa9 (bd Ff4 ee7) (one r1B) (o:=kc9) fun x=>q8 (by kernel_rfl)
noncomputable def kd0:List (Nat×Sum):=[(109,jd9),(187,Ad6),(186,Sc6),(167,xc4),(130,Lc9)]
theorem Wc6:i4 prog G kd0:=⟨Ad7,ee6,Gd3,Sc8,hd5,trivial⟩
noncomputable def Ua3 (x:V3) (y:V3) (z:V3):Option (b7×List b8):=let t1:=(Bb8 x);let t2:=(Bb8 y);let t3:=(Bb8 z);let t4:=(jb2 y x);let t5:=(jb2 z x);let t6:=(mb8 t4 t5);let t7:=(Xa9 t6);let t8:=(ib0 t7.1 x);(sl (Bb9 x) (sl (!t1) (some ((.tup [(.agg [(i 0),(i 0),(i 0),(i 0)]),(b false)]),[])) (sl (Bb9 y) (sl (!t2) (some ((.tup [(.agg [(i 0),(i 0),(i 0),(i 0)]),(b false)]),[])) (sl (Bb9 z) (sl (!t3) (some ((.tup [(.agg [(i 0),(i 0),(i 0),(i 0)]),(b false)]),[])) (sl (Ab7 t6) (sl (t7.2==0) (some ((.tup [(.agg [(i 0),(i 0),(i 0),(i 0)]),(b false)]),[])) (some ((.tup [(.agg [(i t7.1.x),(i t7.1.y),(i t7.1.z),(i t8)]),(b true)]),[]))) none)) none)) none)) none)
noncomputable def lb3 (x:V3) (y:V3) (z:V3):Pln×Bool:=aa3 (two r1P r1B) (Ua3 x y z)
noncomputable def lb4 (x:V3) (y:V3) (z:V3):Bool:=okO (two r1P r1B) (Ua3 x y z)
noncomputable def uc4:Sum:=Fd1 (ua9 tV) (ua9 tV) (ua9 tV) (fun x y z=>.guard (lb4 x y z) (.ret ((two r1P r1B).enc (lb3 x y z),[])))
theorem kd1:g8 prog G 115 uc4:=sf4 (bd Ff7 Wc6) (two r1P r1B) (o:=Ua3) fun x y z=>q8 (by kernel_rfl)
noncomputable def Ud1:List (Nat×Sum):=[(86,Sc9),(109,jd9),(130,Lc9)]
theorem Id2:i4 prog G Ud1:=⟨Gd6,Ad7,hd5,trivial⟩
noncomputable def Ya1 (x:Pln) (y:V3):Option (b7×List b8):=let t1:=(Kb9 x);let t2:=(Bb8 y);let t3:=(ib0 x.n y);(sl (Lb0 x) (sl (!t1) (some ((i 0),[])) (sl (Bb9 y) (sl (!t2) (some ((i 0),[])) (sl (decide ((W (t3 - x.b)) < 0)) (some ((i (-1)),[])) (sl (decide ((W (t3 - x.b)) > 0)) (some ((i 1),[])) (some ((i 0),[]))))) none)) none)
noncomputable def Yb5 (x:Pln) (y:V3):Int:=aa3 (one r1I) (Ya1 x y)
noncomputable def yc2 (x:Pln) (y:V3):Bool:=okO (one r1I) (Ya1 x y)
noncomputable def kd2:Sum:=Sa3 (ua9 tP) (ua9 tV) (fun x y=>.guard (yc2 x y) (.ret ((one r1I).enc (Yb5 x y),[])))
theorem Ud2:g8 prog G 194 kd2:=rc6 (bd If8 Id2) (one r1I) (o:=Ya1) fun x y=>q8 (by kernel_rfl)
structure xe2 where
 e8:Int
 c7:Int
 f0:Int
 d9:Int
 J4:Int
 J5:Int
 J6:Int
 da0:Int
structure xe3 where
 is7:Int
end Go.Ev.Ce
end
section
namespace Go.Ev.Ce
open Go Go.Ev Go.Ev.L Go.Proofs
set_option maxRecDepth 100000
noncomputable def ob6:List (Nat×Sum):=[(115,uc4),(194,kd2)]
theorem Id3:i4 prog G ob6:=⟨kd1,Ud2,trivial⟩
structure Fa7 where
 l5:List V3
 is3:Int
 is4:Int
 is5:Int
 bs7:Bool
 e8:Int
 c7:Int
 f0:Int
 d9:Int
structure oa7 where
 is8:Int
noncomputable def sd4 (p:Fa7) (s:oa7):St:=⟨((eL tV p.l5)::(.unk::(.unk::((i p.is3)::((i p.is4)::((i p.is5)::((.ptr 0 0 0 0)::((b p.bs7)::((i s.is8)::(ra 48 [])))))))))),[⟨0,4,[[(i p.e8),(i p.c7),(i p.f0),(i p.d9)]],true,false,0⟩]⟩
noncomputable def ha4 {α:Type} (k:oa7→α) (e:Nat→α) (z:α) (p:Fa7) (s:oa7):α:=let t1:=(Yb5 (⟨(⟨p.e8,p.c7,p.f0⟩:V3),p.d9⟩:Pln) (gL tV p.l5 s.is8.toNat));(sl (decide (s.is8 < (↑(List.length p.l5):Int))) (sl p.bs7 (sl (inB s.is8 (List.length p.l5)) (sl (yc2 (⟨(⟨p.e8,p.c7,p.f0⟩:V3),p.d9⟩:Pln) (gL tV p.l5 s.is8.toNat)) (sl (t1 != 0) (e 1) (k ⟨(W (s.is8+1))⟩)) z) z) (e 2)) (e 3))
noncomputable def D6 (p:Fa7) (s:oa7):Stp oa7:=ha4 .next .exit .fail p s
noncomputable def Yb6:Lo Fa7 oa7:=⟨En ob6,0,Sd4,[1,0,1,4,4,1,0,4,1,4,4,1,0,4,1,4,4,1,0,4,1,1,4,4],[0,3,4,5,6,7,8],.p,[⟨((.s (.c 3 (nL tV)))::((.s (.o .unk))::((.s (.o .unk))::((.s (.o (.int .i64)))::((.s (.o (.int .i64)))::((.s (.o (.int .i64)))::((.s (.o (.ptr 0 0 0 0)))::((.s (.o .bool))::((.s (.o (.int .i64)))::(ru2 48 [])))))))))),[⟨0,4,true,(some [[(.o (.int .i64)),(.o (.int .i64)),(.o (.int .i64)),(.o (.int .i64))]])⟩],fun a H=>(⟨(rL tV (slT a 0)),(toI (slT a 3)),(toI (slT a 4)),(toI (slT a 5)),(toB (slT a 7)),(toI (slT (rwT (elT H 0) 0) 0)),(toI (slT (rwT (elT H 0) 0) 1)),(toI (slT (rwT (elT H 0) 0) 2)),(toI (slT (rwT (elT H 0) 0) 3))⟩,⟨(toI (slT a 8))⟩)⟩],D6,[(none,fun p s=>⟨[(b false)],[]⟩),(some 6,fun p s=>⟨((eL tV p.l5)::(.unk::(.unk::((i p.is3)::((i p.is4)::((i p.is5)::((.ptr 0 0 0 0)::((b p.bs7)::((i s.is8)::(ra 32 ((i s.is8)::((eL tV p.l5)::((i (↑(List.length p.l5):Int))::((b (decide (s.is8 < (↑(List.length p.l5):Int))))::((b true)::((b p.bs7)::((b p.bs7)::(ra 9 [])))))))))))))))))),[⟨0,4,[[(i p.e8),(i p.c7),(i p.f0),(i p.d9)]],true,false,0⟩]⟩),(some 6,fun p s=>⟨((eL tV p.l5)::(.unk::(.unk::((i p.is3)::((i p.is4)::((i p.is5)::((.ptr 0 0 0 0)::((b p.bs7)::((i s.is8)::(ra 32 ((i s.is8)::((eL tV p.l5)::((i (↑(List.length p.l5):Int))::((b (decide (s.is8 < (↑(List.length p.l5):Int))))::((b false)::(u::((b false)::(ra 9 [])))))))))))))))))),[⟨0,4,[[(i p.e8),(i p.c7),(i p.f0),(i p.d9)]],true,false,0⟩]⟩)],sd4⟩
theorem sd5:Yb6.Ok:=Lo.ok [] (by kernel_rfl) .nil rfl (.cons (fun a H=>by kernel_rfl) .nil) fun p s=>(.of @ha4 (fun F _ _ _ _ _=>by unfold ha4;(repeat' apply j5 (f:=F))<;>rfl) (by kernel_rfl))
structure db3 where
 is3:Int
 is4:Int
structure oa8 where
 l5:List V3
 is5:Int
noncomputable def sd6 (p:db3) (s:oa8):St:=⟨((eL tV s.l5)::(.unk::(.unk::((i p.is3)::((i p.is4)::((i s.is5)::(ra 51 []))))))),[]⟩
noncomputable def ta3 {α:Type} (k:oa8→α) (e:Nat→α) (z:α) (p:db3) (s:oa8):α:=let t1:=(lb3 (gL tV s.l5 p.is3.toNat) (gL tV s.l5 p.is4.toNat) (gL tV s.l5 s.is5.toNat));let t2:=(lp (D6 (⟨(rt tV s.l5),p.is3,p.is4,s.is5,t1.2,t1.1.n.x,t1.1.n.y,t1.1.n.z,t1.1.b⟩:Fa7)) (⟨0⟩:oa7));(sl (decide (s.is5 < p.is4)) (sl (inB p.is3 (List.length s.l5)) (sl (inB p.is4 (List.length s.l5)) (sl (inB s.is5 (List.length s.l5)) (sl (lb4 (gL tV s.l5 p.is3.toNat) (gL tV s.l5 p.is4.toNat) (gL tV s.l5 s.is5.toNat)) (sl ((cnE tV s.l5)&&true) (sl (Nat.beq t2.1 1) (e 1) (sl (Nat.beq t2.1 2) (k ⟨(rt tV s.l5),(W (s.is5+1))⟩) (sl (Nat.beq t2.1 3) (k ⟨(rt tV s.l5),(W (s.is5+1))⟩) z))) z) z) z) z) z) (e 2))
noncomputable def X8 (p:db3) (s:oa8):Stp oa8:=ta3 .next .exit .fail p s
noncomputable def Yb7:Lo db3 oa8:=⟨En ob6,0,Sd4,[1,0,1,4,4,1,0,4,1,4,4,1,0,4,1,4,4],[0,3,4,5],(.s .p (.s (.b (.s .p (.s .p (.b (.u Yb6.ls))))) .p)),[⟨((.s (.c 3 (nL tV)))::((.s (.o .unk))::((.s (.o .unk))::((.s (.o (.int .i64)))::((.s (.o (.int .i64)))::((.s (.o (.int .i64)))::(ru2 51 []))))))),[],fun a H=>(⟨(toI (slT a 3)),(toI (slT a 4))⟩,⟨(rL tV (slT a 0)),(toI (slT a 5))⟩)⟩],X8,[(none,fun p s=>⟨[(b false)],[]⟩),(some 4,fun p s=>⟨((eL tV s.l5)::(.unk::(.unk::((i p.is3)::((i p.is4)::((i s.is5)::(ra 14 ((i s.is5)::((i p.is4)::((b (decide (s.is5 < p.is4)))::(ra 34 []))))))))))),[]⟩)],sd6⟩
theorem sd7:Yb7.Ok:=Lo.ok [Yb6.pr] (by kernel_rfl) (.cons sd5 .nil) rfl (.cons (fun a H=>by kernel_rfl) .nil) fun p s=>(.of @ta3 (fun F _ _ _ _ _=>by unfold ta3;(repeat' apply j5 (f:=F))<;>rfl) (by kernel_rfl))
structure db4 where
 is3:Int
structure oa9 where
 l5:List V3
 is4:Int
noncomputable def sd8 (p:db4) (s:oa9):St:=⟨((eL tV s.l5)::(.unk::(.unk::((i p.is3)::((i s.is4)::(ra 52 [])))))),[]⟩
noncomputable def ta4 {α:Type} (k:oa9→α) (e:Nat→α) (z:α) (p:db4) (s:oa9):α:=let t1:=(lp (X8 (⟨p.is3,s.is4⟩:db3)) (⟨(rt tV s.l5),0⟩:oa8));(sl (decide (s.is4 < p.is3)) (sl ((cnE tV s.l5)&&true) (sl (Nat.beq t1.1 1) (e 1) (sl (Nat.beq t1.1 2) (k ⟨t1.2.l5,(W (s.is4+1))⟩) z)) z) (e 2))
noncomputable def X9 (p:db4) (s:oa9):Stp oa9:=ta4 .next .exit .fail p s
noncomputable def Yb8:Lo db4 oa9:=⟨En ob6,0,Sd4,[1,0,1,4,4,1,0,4,1,4,4],[0,3,4],(.s .p (.s (.b (.s .p (.b (.u Yb7.ls)))) .p)),[⟨((.s (.c 3 (nL tV)))::((.s (.o .unk))::((.s (.o .unk))::((.s (.o (.int .i64)))::((.s (.o (.int .i64)))::(ru2 52 [])))))),[],fun a H=>(⟨(toI (slT a 3))⟩,⟨(rL tV (slT a 0)),(toI (slT a 4))⟩)⟩],X9,[(none,fun p s=>⟨[(b false)],[]⟩),(some 2,fun p s=>⟨((eL tV s.l5)::(.unk::(.unk::((i p.is3)::((i s.is4)::(ra 10 ((i s.is4)::((i p.is3)::((b (decide (s.is4 < p.is3)))::(ra 39 [])))))))))),[]⟩)],sd8⟩
theorem sd9:Yb8.Ok:=Lo.ok [Yb7.pr] (by kernel_rfl) (.cons sd7 .nil) rfl (.cons (fun a H=>by kernel_rfl) .nil) fun p s=>(.of @ta4 (fun F _ _ _ _ _=>by unfold ta4;(repeat' apply j5 (f:=F))<;>rfl) (by kernel_rfl))
structure db5 where
structure pa0 where
 l5:List V3
 is3:Int
noncomputable def td0 (p:db5) (s:pa0):St:=⟨((eL tV s.l5)::(.unk::(.unk::((i s.is3)::(ra 53 []))))),[]⟩
noncomputable def ta5 {α:Type} (k:pa0→α) (e:Nat→α) (z:α) (p:db5) (s:pa0):α:=let t1:=(lp (X9 (⟨s.is3⟩:db4)) (⟨(rt tV s.l5),0⟩:oa9));(sl (decide (s.is3 < (↑(List.length s.l5):Int))) (sl ((cnE tV s.l5)&&true) (sl (Nat.beq t1.1 1) (e 1) (sl (Nat.beq t1.1 2) (k ⟨t1.2.l5,(W (s.is3+1))⟩) z)) z) (e 2))
noncomputable def Y0 (p:db5) (s:pa0):Stp pa0:=ta5 .next .exit .fail p s
noncomputable def Yb9:Lo db5 pa0:=⟨En ob6,0,Sd4,[1,0,1,4,4],[0,3],(.s .p (.s (.b (.s .p (.b (.u Yb8.ls)))) .p)),[⟨((.s (.c 3 (nL tV)))::((.s (.o .unk))::((.s (.o .unk))::((.s (.o (.int .i64)))::(ru2 53 []))))),[],fun a H=>(⟨⟩,⟨(rL tV (slT a 0)),(toI (slT a 3))⟩)⟩],Y0,[(none,fun p s=>⟨[(b false)],[]⟩),(some 0,fun p s=>⟨((eL tV s.l5)::(.unk::(.unk::((i s.is3)::(ra 5 ((i s.is3)::((eL tV s.l5)::((i (↑(List.length s.l5):Int))::((b (decide (s.is3 < (↑(List.length s.l5):Int))))::(ra 44 [])))))))))),[]⟩)],td0⟩
theorem td1:Yb9.Ok:=Lo.ok [Yb8.pr] (by kernel_rfl) (.cons sd9 .nil) rfl (.cons (fun a H=>by kernel_rfl) .nil) fun p s=>(.of @ta5 (fun F _ _ _ _ _=>by unfold ta5;(repeat' apply j5 (f:=F))<;>rfl) (by kernel_rfl))
noncomputable def Ya2 (x:List V3):Option (b7×List b8):=let t1:=(lp (Y0 (⟨⟩:db5)) (⟨(rt tV x),0⟩:pa0));(sl ((cnE tV x)&&true) (sl (Nat.beq t1.1 1) (some ((b false),[])) (sl (Nat.beq t1.1 2) (some ((b true),[])) none)) none)
noncomputable def Cb0 (x:List V3):Bool:=aa3 (one r1B) (Ya2 x)
noncomputable def jb3 (x:List V3):Bool:=okO (one r1B) (Ya2 x)
noncomputable def kd3:Sum:=S5 (Fa1 tV) (fun x=>.guard (jb3 x) (.ret ((one r1B).enc (Cb0 x),[])))
theorem Ud3:g8 prog G 124 kd3:=Pa9 (bd Ff9 Id3) (one r1B) (o:=Ya2) fun x=>Ma1 (.s .p (.s (.s .p (.b (.u Yb9.ls))) .p)) [Yb9.pr] (by kernel_rfl) (.cons td1 .nil) (by kernel_rfl)
structure Oe9 where
 l5:List V3
structure Pe0 where
 is3:Int
structure Pe1 where
 Mf0:List V3
 e8:Int
 c7:Int
 f0:Int
 d9:Int
structure Pe2 where
 is5:Int
structure ff4 where
 l0:List Pln
 e8:Int
 c7:Int
 f0:Int
 d9:Int
structure ff5 where
 is5:Int
structure Pe3 where
 l5:List V3
 is6:Int
 is7:Int
structure Pe4 where
 ph:Nat
 is8:Int
 Uc5:List Pln
structure Pe5 where
 is6:Int
structure Pe6 where
 ph:Nat
 l5:List V3
 is7:Int
 Uc5:List Pln
structure Pe7 where
structure Pe8 where
 ph:Nat
 l5:List V3
 is6:Int
 Uc5:List Pln
noncomputable def uc5:List (Nat×Sum):=[(98,cc3),(124,kd3)]
theorem kd4:i4 prog G uc5:=⟨Nc1,Ud3,trivial⟩
structure ha5 where
 is4:Int
structure u9 where
 ph:Nat
 is6:Int
 p4:List Int
 c7:Int
 ns5:Nat
 eh1:List (List b7)
noncomputable def Nc2 (p:ha5) (s:u9):St:=⟨(ra 3 ((.ptr 0 0 0 0)::((i p.is4)::((.v (.slice none 0 0))::((i s.is6)::(ra 127 [])))))),[⟨0,2,[[(eL tI s.p4),(i s.c7)]],true,false,0⟩]⟩
noncomputable def Nc3 (p:ha5) (s:u9):St:=⟨(ra 3 ((.ptr 0 0 0 0)::((i p.is4)::((.sl 1 0 s.ns5 0)::((i s.is6)::(ra 127 [])))))),[⟨0,2,[[(eL tI s.p4),(i s.c7)]],true,false,0⟩,⟨36,3,s.eh1,true,false,0⟩]⟩
noncomputable def Wc7 (p:ha5) (s:u9):St:=(sel (Nat.beq s.ph 1) (Nc3 p s) (Nc2 p s))
noncomputable def ea2 {α:Type} (k:u9→α) (e:Nat→α) (z:α) (p:ha5) (s:u9):α:=let t1:=(E5 ⟨17,(rt tI s.p4),s.c7⟩);let t2:=(E5 ⟨17,(rt tI (rt tI s.p4)),t1.c7⟩);let t3:=(E5 ⟨17,(rt tI (rt tI (rt tI s.p4))),t2.c7⟩);let t4:=(E5 ⟨6,(rt tI (rt tI (rt tI (rt tI s.p4)))),t3.c7⟩);(sl (decide (s.is6 < p.is4)) (sl ((cnE tI s.p4)&&true) (sl (Nat.beq t1.alt 1) (sl ((cnE tI (rt tI s.p4))&&true) (sl (Nat.beq t2.alt 1) (sl ((cnE tI (rt tI (rt tI s.p4)))&&true) (sl (Nat.beq t3.alt 1) (sl ((cnE tI (rt tI (rt tI (rt tI s.p4))))&&true) (sl (Nat.beq t4.alt 1) (sl (t4.is0==1) (sl (decide (s.is6 > 1)) z (sl (t4.is0==2) (sl (decide (s.is6 > 0)) z (sl (t4.is0==3) (sl (decide (s.is6 > 2)) z (k ⟨1,(W (s.is6+1)),(rt tI (rt tI (rt tI (rt tI s.p4)))),t4.c7,1,[[(i (W (t1.is0 - 8))),(i (W (t2.is0 - 8))),(i (W (t3.is0 - 8)))]]⟩)) (k ⟨1,(W (s.is6+1)),(rt tI (rt tI (rt tI (rt tI s.p4)))),t4.c7,1,[[(i (W (t1.is0 - 8))),(i (W (t2.is0 - 8))),(i (W (t3.is0 - 8)))]]⟩))) (sl (t4.is0==3) (sl (decide (s.is6 > 2)) z (k ⟨1,(W (s.is6+1)),(rt tI (rt tI (rt tI (rt tI s.p4)))),t4.c7,1,[[(i (W (t1.is0 - 8))),(i (W (t2.is0 - 8))),(i (W (t3.is0 - 8)))]]⟩)) (k ⟨1,(W (s.is6+1)),(rt tI (rt tI (rt tI (rt tI s.p4)))),t4.c7,1,[[(i (W (t1.is0 - 8))),(i (W (t2.is0 - 8))),(i (W (t3.is0 - 8)))]]⟩)))) (sl (t4.is0==2) (sl (decide (s.is6 > 0)) z (sl (t4.is0==3) (sl (decide (s.is6 > 2)) z (k ⟨1,(W (s.is6+1)),(rt tI (rt tI (rt tI (rt tI s.p4)))),t4.c7,1,[[(i (W (t1.is0 - 8))),(i (W (t2.is0 - 8))),(i (W (t3.is0 - 8)))]]⟩)) (k ⟨1,(W (s.is6+1)),(rt tI (rt tI (rt tI (rt tI s.p4)))),t4.c7,1,[[(i (W (t1.is0 - 8))),(i (W (t2.is0 - 8))),(i (W (t3.is0 - 8)))]]⟩))) (sl (t4.is0==3) (sl (decide (s.is6 > 2)) z (k ⟨1,(W (s.is6+1)),(rt tI (rt tI (rt tI (rt tI s.p4)))),t4.c7,1,[[(i (W (t1.is0 - 8))),(i (W (t2.is0 - 8))),(i (W (t3.is0 - 8)))]]⟩)) (k ⟨1,(W (s.is6+1)),(rt tI (rt tI (rt tI (rt tI s.p4)))),t4.c7,1,[[(i (W (t1.is0 - 8))),(i (W (t2.is0 - 8))),(i (W (t3.is0 - 8)))]]⟩)))) z) z) z) z) z) z) z) z) (e 1))
noncomputable def s6 {α:Type} (k:u9→α) (e:Nat→α) (z:α) (p:ha5) (s:u9):α:=let t1:=(E5 ⟨17,(rt tI s.p4),s.c7⟩);let a0:=(j6 s.eh1 (0+(W (s.is6 - 1)).toNat));let a1:=(Nat.beq s.ns5 (len s.eh1)&&Nat.ble ((s.ns5+1)*24) room);let a3:=(g9 (j6 s.eh1 (0+(W (s.is6 - 2)).toNat)) 0);let a4:=((Nat.blt (0+(W (s.is6 - 1)).toNat) (len s.eh1))&&(Nat.ble (2+1) (len a0)));let a5:=(i (W (Int.tdiv (W ((toI (hdA (tlA (g9 a0 0))))+(toI (hdA (tlA a3))))) 2)));let a6:=(i (W (Int.tdiv (W ((toI (hdA (g9 a0 0)))+(toI (hdA a3)))) 2)));let a7:=(app s.eh1 [[a6,a5,(i (W (Int.tdiv (W ((toI (hdA (tlA (tlA (g9 a0 0)))))+(toI (hdA (tlA (tlA a3)))))) 2)))]]);let a8:=(inB (W (s.is6 - 1)) s.ns5);let a9:=(i (toI (hdA (tlA (g9 a0 0)))));let a10:=((Nat.blt (0+(W (s.is6 - 1)).toNat) (len s.eh1))&&(Nat.ble (0+3) (len a0)));let a11:=(i (toI (hdA (g9 a0 0))));let a12:=(app s.eh1 [[a11,a9,(i (toI (hdA (tlA (tlA (g9 a0 0))))))]]);let a13:=(i (toI (hdA (g9 a0 2))));let a14:=(rt tI (rt tI s.p4));let t2:=(E5 ⟨17,a14,t1.c7⟩);let t3:=(E5 ⟨17,(rt tI a14),t2.c7⟩);let a2:=(rt tI (rt tI a14));let t4:=(E5 ⟨6,a2,t3.c7⟩);(sl (decide (s.is6 < p.is4)) (sl ((cnE tI s.p4)&&true) (sl (Nat.beq t1.alt 1) (sl ((cnE tI (rt tI s.p4))&&true) (sl (Nat.beq t2.alt 1) (sl ((cnE tI a14)&&true) (sl (Nat.beq t3.alt 1) (sl ((cnE tI (rt tI a14))&&true) (sl (Nat.beq t4.alt 1) (sl (t4.is0==1) (sl (decide (s.is6 > 1)) (sl a8 (sl (a10&&(ia5 [(CK.int .i64),(CK.int .i64),(CK.int .i64)] (g9 a0 0))) (sl (inB (W (s.is6 - 2)) s.ns5) (sl (((Nat.blt (0+(W (s.is6 - 2)).toNat) (len s.eh1))&&(Nat.ble (0+3) (len (j6 s.eh1 (0+(W (s.is6 - 2)).toNat)))))&&(ia5 [(CK.int .i64),(CK.int .i64),(CK.int .i64)] a3)) (sl (t4.is0==2) (sl (decide (s.is6 > 0)) (sl a8 (sl (a10&&(ia5 [(CK.int .i64),(CK.int .i64),(CK.int .i64)] (g9 a0 0))) (sl (t4.is0==3) (sl (decide (s.is6 > 2)) (sl a8 (sl (a4&&(ia5 [(CK.int .i64)] (g9 a0 2))) (sl a1 (k ⟨1,(W (s.is6+1)),a2,t4.c7,(s.ns5+1),(app s.eh1 [[a11,a9,a13]])⟩) z) z) z) (sl a1 (k ⟨1,(W (s.is6+1)),a2,t4.c7,(s.ns5+1),a12⟩) z)) (sl a1 (k ⟨1,(W (s.is6+1)),a2,t4.c7,(s.ns5+1),a12⟩) z)) z) z) (sl (t4.is0==3) (sl (decide (s.is6 > 2)) (sl a8 (sl (a4&&(ia5 [(CK.int .i64)] (g9 a0 2))) (sl a1 (k ⟨1,(W (s.is6+1)),a2,t4.c7,(s.ns5+1),(app s.eh1 [[a6,a5,a13]])⟩) z) z) z) (sl a1 (k ⟨1,(W (s.is6+1)),a2,t4.c7,(s.ns5+1),a7⟩) z)) (sl a1 (k ⟨1,(W (s.is6+1)),a2,t4.c7,(s.ns5+1),a7⟩) z))) (sl (t4.is0==3) (sl (decide (s.is6 > 2)) (sl a8 (sl (a4&&(ia5 [(CK.int .i64)] (g9 a0 2))) (sl a1 (k ⟨1,(W (s.is6+1)),a2,t4.c7,(s.ns5+1),(app s.eh1 [[a6,a5,a13]])⟩) z) z) z) (sl a1 (k ⟨1,(W (s.is6+1)),a2,t4.c7,(s.ns5+1),a7⟩) z)) (sl a1 (k ⟨1,(W (s.is6+1)),a2,t4.c7,(s.ns5+1),a7⟩) z))) z) z) z) z) (sl (t4.is0==2) (sl (decide (s.is6 > 0)) (sl a8 (sl (a10&&(ia5 [(CK.int .i64),(CK.int .i64),(CK.int .i64)] (g9 a0 0))) (sl (t4.is0==3) (sl (decide (s.is6 > 2)) (sl a8 (sl (a4&&(ia5 [(CK.int .i64)] (g9 a0 2))) (sl a1 (k ⟨1,(W (s.is6+1)),a2,t4.c7,(s.ns5+1),(app s.eh1 [[a11,a9,a13]])⟩) z) z) z) (sl a1 (k ⟨1,(W (s.is6+1)),a2,t4.c7,(s.ns5+1),a12⟩) z)) (sl a1 (k ⟨1,(W (s.is6+1)),a2,t4.c7,(s.ns5+1),a12⟩) z)) z) z) (sl (t4.is0==3) (sl (decide (s.is6 > 2)) (sl a8 (sl (a4&&(ia5 [(CK.int .i64)] (g9 a0 2))) (sl a1 (k ⟨1,(W (s.is6+1)),a2,t4.c7,(s.ns5+1),(app s.eh1 [[(i (W (t1.is0 - 8))),(i (W (t2.is0 - 8))),a13]])⟩) z) z) z) (sl a1 (k ⟨1,(W (s.is6+1)),a2,t4.c7,(s.ns5+1),(app s.eh1 [[(i (W (t1.is0 - 8))),(i (W (t2.is0 - 8))),(i (W (t3.is0 - 8)))]])⟩) z)) (sl a1 (k ⟨1,(W (s.is6+1)),a2,t4.c7,(s.ns5+1),(app s.eh1 [[(i (W (t1.is0 - 8))),(i (W (t2.is0 - 8))),(i (W (t3.is0 - 8)))]])⟩) z))) (sl (t4.is0==3) (sl (decide (s.is6 > 2)) (sl a8 (sl (a4&&(ia5 [(CK.int .i64)] (g9 a0 2))) (sl a1 (k ⟨1,(W (s.is6+1)),a2,t4.c7,(s.ns5+1),(app s.eh1 [[(i (W (t1.is0 - 8))),(i (W (t2.is0 - 8))),a13]])⟩) z) z) z) (sl a1 (k ⟨1,(W (s.is6+1)),a2,t4.c7,(s.ns5+1),(app s.eh1 [[(i (W (t1.is0 - 8))),(i (W (t2.is0 - 8))),(i (W (t3.is0 - 8)))]])⟩) z)) (sl a1 (k ⟨1,(W (s.is6+1)),a2,t4.c7,(s.ns5+1),(app s.eh1 [[(i (W (t1.is0 - 8))),(i (W (t2.is0 - 8))),(i (W (t3.is0 - 8)))]])⟩) z)))) (sl (t4.is0==2) (sl (decide (s.is6 > 0)) (sl a8 (sl (a10&&(ia5 [(CK.int .i64),(CK.int .i64),(CK.int .i64)] (g9 a0 0))) (sl (t4.is0==3) (sl (decide (s.is6 > 2)) (sl a8 (sl (a4&&(ia5 [(CK.int .i64)] (g9 a0 2))) (sl a1 (k ⟨1,(W (s.is6+1)),a2,t4.c7,(s.ns5+1),(app s.eh1 [[a11,a9,a13]])⟩) z) z) z) (sl a1 (k ⟨1,(W (s.is6+1)),a2,t4.c7,(s.ns5+1),a12⟩) z)) (sl a1 (k ⟨1,(W (s.is6+1)),a2,t4.c7,(s.ns5+1),a12⟩) z)) z) z) (sl (t4.is0==3) (sl (decide (s.is6 > 2)) (sl a8 (sl (a4&&(ia5 [(CK.int .i64)] (g9 a0 2))) (sl a1 (k ⟨1,(W (s.is6+1)),a2,t4.c7,(s.ns5+1),(app s.eh1 [[(i (W (t1.is0 - 8))),(i (W (t2.is0 - 8))),a13]])⟩) z) z) z) (sl a1 (k ⟨1,(W (s.is6+1)),a2,t4.c7,(s.ns5+1),(app s.eh1 [[(i (W (t1.is0 - 8))),(i (W (t2.is0 - 8))),(i (W (t3.is0 - 8)))]])⟩) z)) (sl a1 (k ⟨1,(W (s.is6+1)),a2,t4.c7,(s.ns5+1),(app s.eh1 [[(i (W (t1.is0 - 8))),(i (W (t2.is0 - 8))),(i (W (t3.is0 - 8)))]])⟩) z))) (sl (t4.is0==3) (sl (decide (s.is6 > 2)) (sl a8 (sl (a4&&(ia5 [(CK.int .i64)] (g9 a0 2))) (sl a1 (k ⟨1,(W (s.is6+1)),a2,t4.c7,(s.ns5+1),(app s.eh1 [[(i (W (t1.is0 - 8))),(i (W (t2.is0 - 8))),a13]])⟩) z) z) z) (sl a1 (k ⟨1,(W (s.is6+1)),a2,t4.c7,(s.ns5+1),(app s.eh1 [[(i (W (t1.is0 - 8))),(i (W (t2.is0 - 8))),(i (W (t3.is0 - 8)))]])⟩) z)) (sl a1 (k ⟨1,(W (s.is6+1)),a2,t4.c7,(s.ns5+1),(app s.eh1 [[(i (W (t1.is0 - 8))),(i (W (t2.is0 - 8))),(i (W (t3.is0 - 8)))]])⟩) z)))) z) z) z) z) z) z) z) z) (e 2))
noncomputable def xa1 (p:ha5) (s:u9):Stp u9:=(sel (Nat.beq s.ph 1) (s6 .next .exit .fail p s) (ea2 .next .exit .fail p s))
noncomputable def Cb1:Lo ha5 u9:=⟨En uc5,0,tf6,[1,1,1,1,0,1,4,4],[3,4,5,6],.p,[⟨(ru2 3 ((.s (.o (.ptr 0 0 0 0)))::((.s (.o (.int .i64)))::((.s (.o .nil))::((.s (.o (.int .i64)))::(ru2 127 [])))))),[⟨0,2,true,(some [[(.c 1 (nL tI)),(.o (.int .i64))]])⟩],fun a H=>(⟨(toI (slT a 4))⟩,⟨0,(toI (slT a 6)),(rL tI (slT (rwT (elT H 0) 0) 0)),(toI (slT (rwT (elT H 0) 0) 1)),0,[]⟩)⟩,⟨(ru2 3 ((.s (.o (.ptr 0 0 0 0)))::((.s (.o (.int .i64)))::((.s (.o (.sl 1 0 (some 0) none)))::((.s (.o (.int .i64)))::(ru2 127 [])))))),[⟨0,2,true,(some [[(.c 1 (nL tI)),(.o (.int .i64))]])⟩,⟨36,3,true,none⟩],fun a H=>(⟨(toI (slT a 4))⟩,⟨1,(toI (slT a 6)),(rL tI (slT (rwT (elT H 0) 0) 0)),(toI (slT (rwT (elT H 0) 0) 1)),(slN (slT a 5)),(elT H 1)⟩)⟩],xa1,[(some 0,fun p s=>⟨(ra 3 ((.ptr 0 0 0 0)::((i p.is4)::((.v (.slice none 0 0))::((i s.is6)::(ra 11 ((i s.is6)::((i p.is4)::((b (decide (s.is6 < p.is4)))::(ra 113 [])))))))))),[⟨0,2,[[(eL tI s.p4),(i s.c7)]],true,false,0⟩]⟩),(some 0,fun p s=>⟨(ra 3 ((.ptr 0 0 0 0)::((i p.is4)::((.sl 1 0 s.ns5 0)::((i s.is6)::(ra 11 ((i s.is6)::((i p.is4)::((b (decide (s.is6 < p.is4)))::(ra 113 [])))))))))),[⟨0,2,[[(eL tI s.p4),(i s.c7)]],true,false,0⟩,⟨36,3,s.eh1,true,false,0⟩]⟩)],Wc7⟩
theorem Wc8:Cb1.Ok:=Lo.ok [] (by kernel_rfl) .nil rfl (.cons (fun a H=>by kernel_rfl) (.cons (fun a H=>by kernel_rfl) .nil)) fun p s=>(.sel (Nat.beq s.ph 1) (.of @s6 (fun F _ _ _ _ _=>by unfold s6;(repeat' apply j5 (f:=F))<;>rfl) (by kernel_rfl)) (.of @ea2 (fun F _ _ _ _ _=>by unfold ea2;(repeat' apply j5 (f:=F))<;>rfl) (by kernel_rfl)))
noncomputable def Fa8 (x:List Int):Option (b7×List b8):=let t1:=(E5 ⟨5,(rt tI x),0⟩);let t2:=(lp (xa1 (⟨(W (4+t1.is0))⟩:ha5)) (⟨0,0,(rt tI (rt tI x)),t1.c7,0,[]⟩:u9));let t3:=(Cb0 []);let t4:=(Cb0 (lsL tV t2.2.ns5 (fun k=>j6 t2.2.eh1 (0+k))));let a0:=(g9 (j6 t2.2.eh1 0) 0);let a1:=(i (toI (hdA (tlA (tlA a0)))));let a2:=(i (W ((toI (hdA a0)) - 3)));let a3:=(setAt t2.2.eh1 1 (S7 (j6 t2.2.eh1 1) 0 [a2,(i (toI (hdA (tlA a0)))),a1]));let a4:=(i (W ((toI (hdA (tlA a0))) - 2)));(sl ((cnE tI x)&&true) (sl (Nat.beq t1.alt 1) (sl ((cnE tI (rt tI x))&&true) (sl (Nat.beq t2.1 1) (sl (jb3 []) (sl t3 none (some ((.v (.slice none 0 0)),[]))) none) (sl (Nat.beq t2.1 2) (sl (okL tV t2.2.ns5 (fun k=>j6 t2.2.eh1 (0+k))) (sl (jb3 (lsL tV t2.2.ns5 (fun k=>j6 t2.2.eh1 (0+k)))) (sl t4 (sl (inB 0 t2.2.ns5) (sl (((Nat.blt 0 (len t2.2.eh1))&&(Nat.ble (0+3) (len (j6 t2.2.eh1 0))))&&(ia5 [(CK.int .i64),(CK.int .i64),(CK.int .i64)] a0)) (sl (inB 1 t2.2.ns5) (sl ((Nat.blt 1 (len t2.2.eh1))&&(Nat.ble (0+3) (len (j6 t2.2.eh1 1)))) (sl (inB 2 t2.2.ns5) (sl ((Nat.blt 2 (len a3))&&(Nat.ble (0+3) (len (j6 a3 2)))) (sl (inB 3 t2.2.ns5) (sl ((Nat.blt 3 (len (setAt a3 2 (S7 (j6 a3 2) 0 [(i (toI (hdA a0))),a4,a1]))))&&(Nat.ble (0+3) (len (j6 (setAt a3 2 (S7 (j6 a3 2) 0 [(i (toI (hdA a0))),a4,a1])) 3)))) (some ((.sl 0 0 t2.2.ns5 0),[⟨36,3,(setAt (setAt a3 2 (S7 (j6 a3 2) 0 [(i (toI (hdA a0))),a4,a1])) 3 (S7 (j6 (setAt a3 2 (S7 (j6 a3 2) 0 [(i (toI (hdA a0))),a4,a1])) 3) 0 [(i (toI (hdA a0))),(i (toI (hdA (tlA a0)))),(i (W ((toI (hdA (tlA (tlA a0)))) - 1)))])),true,false,0⟩])) none) none) none) none) none) none) none) none) (some ((.sl 0 0 t2.2.ns5 0),[⟨36,3,t2.2.eh1,true,false,0⟩]))) none) none) none)) none) none) none)
noncomputable def pa1 (x:List Int):List V3:=aa3 (one (r1L tV)) (Fa8 x)
noncomputable def vb8 (x:List Int):Bool:=okO (one (r1L tV)) (Fa8 x)
noncomputable def Id4:Sum:=S5 (Fa1 tI) (fun x=>.guard (vb8 x) (.ret ((one (r1L tV)).enc (pa1 x),[])))
theorem td2:g8 prog G 46 Id4:=Pa9 (bd b46 kd4) (one (r1L tV)) (o:=Fa8) fun x=>Ma1 (.s .p (.s .p (.s .p (.s .p (.s (.s .p (.b (.u Cb1.ls))) .p))))) [Cb1.pr] (by kernel_rfl) (.cons Wc8 .nil) (by kernel_rfl)
end Go.Ev.Ce
end
section
namespace Go.Ev.Ce
open Go Go.Ev Go.Ev.L Go.Proofs
set_option maxRecDepth 100000
noncomputable def Lb2:List (Nat×Sum):=[]
theorem yc3:i4 prog G Lb2:=trivial
structure ta6 where
 Q0:List Pt
 pd2:List Pt
structure J1 where
 is5:Int
noncomputable def sc2 (p:ta6) (s:J1):St:=⟨((eL tX p.Q0)::((eL tX p.pd2)::(ra 3 ((i s.is5)::(ra 20 []))))),[]⟩
noncomputable def ha6 {α:Type} (k:J1→α) (e:Nat→α) (z:α) (p:ta6) (s:J1):α:=(sl (decide (s.is5 < (↑(List.length p.Q0):Int))) (sl (inB s.is5 (List.length p.Q0)) (sl (inB s.is5 (List.length p.pd2)) (sl (!(((gL tX p.Q0 s.is5.toNat).px==(gL tX p.pd2 s.is5.toNat).px)&&(((gL tX p.Q0 s.is5.toNat).py==(gL tX p.pd2 s.is5.toNat).py)&&(((gL tX p.Q0 s.is5.toNat).pz==(gL tX p.pd2 s.is5.toNat).pz)&&(((gL tX p.Q0 s.is5.toNat).pw==(gL tX p.pd2 s.is5.toNat).pw)&&true))))) (e 1) (k ⟨(W (s.is5+1))⟩)) z) z) (e 2))
noncomputable def ma8 (p:ta6) (s:J1):Stp J1:=ha6 .next .exit .fail p s
noncomputable def Ya3:Lo ta6 J1:=⟨En Lb2,0,tf3,[1,1,0,1,4,4],[0,1,5],.p,[⟨((.s (.c 4 (nL tX)))::((.s (.c 4 (nL tX)))::(ru2 3 ((.s (.o (.int .i64)))::(ru2 20 []))))),[],fun a H=>(⟨(rL tX (slT a 0)),(rL tX (slT a 1))⟩,⟨(toI (slT a 5))⟩)⟩],ma8,[(none,fun p s=>⟨[(b false)],[]⟩),(some 0,fun p s=>⟨((eL tX p.Q0)::((eL tX p.pd2)::(ra 3 ((i s.is5)::(ra 5 ((i s.is5)::((eL tX p.Q0)::((i (↑(List.length p.Q0):Int))::((b (decide (s.is5 < (↑(List.length p.Q0):Int))))::(ra 11 [])))))))))),[]⟩)],sc2⟩
theorem sc3:Ya3.Ok:=Lo.ok [] (by kernel_rfl) .nil rfl (.cons (fun a H=>by kernel_rfl) .nil) fun p s=>(.of @ha6 (fun F _ _ _ _ _=>by unfold ha6;(repeat' apply j5 (f:=F))<;>rfl) (by kernel_rfl))
noncomputable def Da7 (x:List Pt) (y:List Pt):Option (b7×List b8):=let t1:=(lp (ma8 (⟨(rt tX x),(rt tX y)⟩:ta6)) (⟨0⟩:J1));(sl ((↑(List.length x):Int) != (↑(List.length y):Int)) (some ((b false),[])) (sl ((cnE tX x)&&((cnE tX y)&&true)) (sl (Nat.beq t1.1 1) (some ((b false),[])) (sl (Nat.beq t1.1 2) (some ((b true),[])) none)) none))
noncomputable def Da8 (x:List Pt) (y:List Pt):Bool:=aa3 (one r1B) (Da7 x y)
noncomputable def Da9 (x:List Pt) (y:List Pt):Bool:=okO (one r1B) (Da7 x y)
noncomputable def Sb7:Sum:=Sa3 (Fa1 tX) (Fa1 tX) (fun x y=>.guard (Da9 x y) (.ret ((one r1B).enc (Da8 x y),[])))
theorem Fc2:g8 prog G 17 Sb7:=rc6 (bd b17 yc3) (one r1B) (o:=Da7) fun x y=>Ma1 (.s .p (.s .p (.s (.s .p (.b (.u Ya3.ls))) .p))) [Ya3.pr] (by kernel_rfl) (.cons sc3 .nil) (by kernel_rfl)
noncomputable def Tc2:List (Nat×Sum):=[]
theorem Id5:i4 prog G Tc2:=trivial
structure db6 where
 l0:List Pln
 Uc6:List Pln
structure pa2 where
 is5:Int
noncomputable def td3 (p:db6) (s:pa2):St:=⟨((eL tP p.l0)::((eL tP p.Uc6)::(ra 3 ((i s.is5)::(ra 20 []))))),[]⟩
noncomputable def Na4 {α:Type} (k:pa2→α) (e:Nat→α) (z:α) (p:db6) (s:pa2):α:=(sl (decide (s.is5 < (↑(List.length p.l0):Int))) (sl (inB s.is5 (List.length p.l0)) (sl (inB s.is5 (List.length p.Uc6)) (sl (!(((gL tP p.l0 s.is5.toNat).n.x==(gL tP p.Uc6 s.is5.toNat).n.x)&&(((gL tP p.l0 s.is5.toNat).n.y==(gL tP p.Uc6 s.is5.toNat).n.y)&&(((gL tP p.l0 s.is5.toNat).n.z==(gL tP p.Uc6 s.is5.toNat).n.z)&&(((gL tP p.l0 s.is5.toNat).b==(gL tP p.Uc6 s.is5.toNat).b)&&true))))) (e 1) (k ⟨(W (s.is5+1))⟩)) z) z) (e 2))
noncomputable def Ua4 (p:db6) (s:pa2):Stp pa2:=Na4 .next .exit .fail p s
noncomputable def Zb0:Lo db6 pa2:=⟨En Tc2,0,tf5,[1,1,0,1,4,4],[0,1,5],.p,[⟨((.s (.c 4 (nL tP)))::((.s (.c 4 (nL tP)))::(ru2 3 ((.s (.o (.int .i64)))::(ru2 20 []))))),[],fun a H=>(⟨(rL tP (slT a 0)),(rL tP (slT a 1))⟩,⟨(toI (slT a 5))⟩)⟩],Ua4,[(none,fun p s=>⟨[(b false)],[]⟩),(some 0,fun p s=>⟨((eL tP p.l0)::((eL tP p.Uc6)::(ra 3 ((i s.is5)::(ra 5 ((i s.is5)::((eL tP p.l0)::((i (↑(List.length p.l0):Int))::((b (decide (s.is5 < (↑(List.length p.l0):Int))))::(ra 11 [])))))))))),[]⟩)],td3⟩
theorem td4:Zb0.Ok:=Lo.ok [] (by kernel_rfl) .nil rfl (.cons (fun a H=>by kernel_rfl) .nil) fun p s=>(.of @Na4 (fun F _ _ _ _ _=>by unfold Na4;(repeat' apply j5 (f:=F))<;>rfl) (by kernel_rfl))
noncomputable def Cb2 (x:List Pln) (y:List Pln):Option (b7×List b8):=let t1:=(lp (Ua4 (⟨(rt tP x),(rt tP y)⟩:db6)) (⟨0⟩:pa2));(sl ((↑(List.length x):Int) != (↑(List.length y):Int)) (some ((b false),[])) (sl ((cnE tP x)&&((cnE tP y)&&true)) (sl (Nat.beq t1.1 1) (some ((b false),[])) (sl (Nat.beq t1.1 2) (some ((b true),[])) none)) none))
noncomputable def Cb3 (x:List Pln) (y:List Pln):Bool:=aa3 (one r1B) (Cb2 x y)
noncomputable def Cb4 (x:List Pln) (y:List Pln):Bool:=okO (one r1B) (Cb2 x y)
noncomputable def yc4:Sum:=Sa3 (Fa1 tP) (Fa1 tP) (fun x y=>.guard (Cb4 x y) (.ret ((one r1B).enc (Cb3 x y),[])))
theorem Tc3:g8 prog G 26 yc4:=rc6 (bd b26 Id5) (one r1B) (o:=Cb2) fun x y=>Ma1 (.s .p (.s .p (.s (.s .p (.b (.u Zb0.ls))) .p))) [Zb0.pr] (by kernel_rfl) (.cons td4 .nil) (by kernel_rfl)
structure ff6 where
 is6:Int
structure ff7 where
 ns5:Nat
 eh0:List (List b7)
end Go.Ev.Ce
end
namespace Go.Ev.Ce
open Go Go.Ev Go.Ev.L Go.Proofs
theorem Ud4 {Q:Pt→Prop} (r:List Pln) (p q:Pln):∀ (l:List Pln) (out:List Pt),(∀ s∈l,(mpt p q s).2=true→inn r (mpt p q s).1=true→Q (mpt p q s).1)→(∀ x∈out,Q x)→∀ x∈Yb4 r p q l out,Q x
 | [],out,_,h=>h
 | s::l,out,hs,h=>Ud4 r p q l (Za2 r p q out s) (fun t ht=>hs t (List.mem_cons_of_mem _ ht)) fun x hx=>by
  unfold Za2 at hx
  split at hx
  ·rename_i hc
   rw[Bool.and_eq_true,Bool.and_eq_true] at hc
   rcases List.mem_append.1 hx with hx | hx
   ·exact h x hx
   ·rw[List.mem_singleton] at hx
    subst hx
    exact hs s List.mem_cons_self hc.1 hc.2.2
  ·exact h x hx
theorem Ud5 {Q:Pt→Prop} (r:List Pln) (p:Pln):∀ (l:List Pln) (out:List Pt),(∀ q∈l,∀ s∈l,(mpt p q s).2=true→inn r (mpt p q s).1=true→Q (mpt p q s).1)→(∀ x∈out,Q x)→∀ x∈Hb9 r p l out,Q x
 | [],out,_,h=>h
 | q::l,out,hs,h=>Ud5 r p l _ (fun a ha t ht=>hs a (List.mem_cons_of_mem _ ha) t (List.mem_cons_of_mem _ ht)) (Ud4 r p q l out (fun t ht=>hs q List.mem_cons_self t (List.mem_cons_of_mem _ ht)) h)
theorem Ud6 {Q:Pt→Prop} (r:List Pln):∀ (l:List Pln) (out:List Pt),(∀ p∈l,∀ q∈l,∀ s∈l,(mpt p q s).2=true→inn r (mpt p q s).1=true→Q (mpt p q s).1)→(∀ x∈out,Q x)→∀ x∈Mc9 r l out,Q x
 | [],out,_,h=>h
 | p::l,out,hs,h=>Ud6 r l _ (fun a ha c hc t ht=>hs a (List.mem_cons_of_mem _ ha) c (List.mem_cons_of_mem _ hc) t (List.mem_cons_of_mem _ ht)) (Ud5 r p l out (fun c hc t ht=>hs p List.mem_cons_self c (List.mem_cons_of_mem _ hc) t (List.mem_cons_of_mem _ ht)) h)
theorem Id6 {Q:Pt→Prop} {r:List Pln} (hs:∀ p∈r,∀ q∈r,∀ s∈r,(mpt p q s).2=true→inn r (mpt p q s).1=true→Q (mpt p q s).1):∀ x∈cor r,Q x :=
 Ud6 r r [] hs fun x hx=>by cases hx
structure Okx (x:Pt):Prop where
 w1:0 < x.pw
 w2:x.pw≤600000000000
 c1:Sm 300000000000000 x.px
 c2:Sm 300000000000000 x.py
 c3:Sm 300000000000000 x.pz
theorem qc1 {r:List Pln} (hb:Bds r):∀ x∈cor r,Okx x:=Id6 fun p hp q hq s hs h _=>by
 obtain⟨h1,h2,h3,h4,h5⟩:=Hd8 (hb p hp) (hb q hq) (hb s hs) h
 exact⟨h1,h5,h2,h3,h4⟩
theorem Ve8 {c:List Pln}:∀ x∈pts c,Okx x:=by
 unfold pts
 cases h:chk c==0 with
 | false=>intro x hx;cases hx
 | true=>exact qc1 (qc0 h).1
theorem Fc3 (c:List Pln):(pts c).length≤8000000:=by
 unfold pts
 cases h:chk c==0 with
 | false=>exact Nat.zero_le _
 | true=>exact le2 _ (qc0 h).1 (qc0 h).2
theorem kd5 {x y:Int} (hy:0 < y):Int.tmod x y+y*Int.tdiv x y=x∧-y < Int.tmod x y∧Int.tmod x y < y:=by
 refine⟨Int.tmod_add_mul_tdiv x y,?_,Int.tmod_lt_of_pos x hy⟩
 have:=Int.lt_tmod_of_pos x hy
 omega
theorem le5 {x y q r:Int} (hy:0 < y) (h:r+y*q=x) (h1:0≤r) (h2:r < y):x / y=q:=((Int.ediv_emod_unique hy).2 ⟨h,h1,h2⟩).1
theorem Ve9 {x y:Int} (hx:Sm 300000000000000 x) (hy:0 < y):Sm 300000000000000 (Int.tdiv x y):=S3 hx hy
theorem Ud7 {x y:Int} (hx:Sm 300000000000000 x) (hy:0 < y):db1 x y=some (i (x / y),[]):=by
 have hz:(y==0)=false:=by rw[beq_eq_false_iff_ne];omega
 obtain⟨h1,h2,h3⟩:=kd5 (x:=x) hy
 have hb:=Ve9 hx hy
 unfold db1
 rw[bf hz,bf hz,jb0 (hb.mono (by omega))]
 by_cases h:Int.tmod x y < 0
 ·rw[btD h,le5 hy (q:=Int.tdiv x y - 1) (r:=Int.tmod x y+y) (by rw[Int.mul_sub];omega) (by omega) (by omega),na5 (by have:=hb.1;omega) (by have:=hb.2;omega)]
 ·rw[bfD h,le5 hy h1 (by omega) h3]
theorem qc2 {x y:Int} (hx:Sm 300000000000000 x) (hy:0 < y):oa5 x y=x / y:=by unfold oa5;rw[Ud7 hx hy];rfl
theorem qc3 {x y:Int} (hx:Sm 300000000000000 x) (hy:0 < y):oa6 x y=true:=by unfold oa6;rw[Ud7 hx hy];rfl
theorem Fe8 (x:Int) {y:Int} (hy:0 < y) (hy2:y≤4000000000000000000):Rb6 x y=some (i (x % y),[]):=by
 have hz:(y==0)=false:=by rw[beq_eq_false_iff_ne];omega
 obtain⟨h1,h2,h3⟩:=kd5 (x:=x) hy
 unfold Rb6
 rw[bfD (by omega),bf hz,bf hz,na5 (by omega) (by omega),Int.tmod_eq_emod_of_nonneg (by omega)]
 congr 3
 rw[Int.add_emod_right]
 conv=>rhs;rw[← h1]
 rw[Int.add_mul_emod_self_left]
theorem zf0 (x:Int) {y:Int} (hy:0 < y) (hy2:y≤4000000000000000000):pc7 x y=x % y:=by unfold pc7;rw[Fe8 x hy hy2];rfl
theorem zf1 (x:Int) {y:Int} (hy:0 < y) (hy2:y≤4000000000000000000):pc8 x y=true:=by unfold pc8;rw[Fe8 x hy hy2];rfl
noncomputable def Fc4 (s:V3×V3) (x:Pt):V3×V3 :=
 (⟨if x.px / x.pw < s.1.x then x.px / x.pw else s.1.x,if x.py / x.pw < s.1.y then x.py / x.pw else s.1.y,if x.pz / x.pw < s.1.z then x.pz / x.pw else s.1.z⟩,
  ⟨if W (0 - -x.px / x.pw) > s.2.x then W (0 - -x.px / x.pw) else s.2.x,if W (0 - -x.py / x.pw) > s.2.y then W (0 - -x.py / x.pw) else s.2.y,if W (0 - -x.pz / x.pw) > s.2.z then W (0 - -x.pz / x.pw) else s.2.z⟩)
noncomputable def bnd (c:List Pln):V3×V3×Bool :=
 if ful c then (((pts c).foldl Fc4 (⟨24,24,24⟩,⟨-24,-24,-24⟩)).1,((pts c).foldl Fc4 (⟨24,24,24⟩,⟨-24,-24,-24⟩)).2,true) else (⟨0,0,0⟩,⟨0,0,0⟩,false)
theorem Fe9 {x:Int} (h:Sm 300000000000000 x):W (0 - x)=-x:=by obtain⟨h1,h2⟩:=h;rw[na5 (by omega) (by omega)];omega
theorem Sm.neg {n x:Int} (h:Sm n x):Sm n (-x):=⟨by have:=h.2;omega,by have:=h.1;omega⟩
noncomputable def zf2 (r:V3×V3×Bool):b7:=.tup [.agg (tV.row r.1),.agg (tV.row r.2.1),b r.2.2]
theorem ee8 (X:List Pt) (hX:X.length≤8000000) (hok:∀ x∈X,Okx x) (s:V3×V3):∃ m,lp (wa9 ⟨X,(X.length:Int)⟩) ⟨0,s.1.x,s.1.y,s.1.z,s.2.x,s.2.y,s.2.z⟩=(1,⟨m,(X.foldl Fc4 s).1.x,(X.foldl Fc4 s).1.y,(X.foldl Fc4 s).1.z,(X.foldl Fc4 s).2.x,(X.foldl Fc4 s).2.y,(X.foldl Fc4 s).2.z⟩):=by
 have h:=Cc9 (step:=wa9 ⟨X,(X.length:Int)⟩) (mk:=fun j (s:V3×V3)=>(⟨(j:Int),s.1.x,s.1.y,s.1.z,s.2.x,s.2.y,s.2.z⟩:ha3)) (f:=Fc4) (fin:=1) tX X (fun _ _=>True) (by omega)
  (fun j s hj _=>⟨by
   have hx:=hok _ (Ab1 tX hj)
   simp only[wa9,Da6,Int.toNat_natCast,Fe9 hx.c1,Fe9 hx.c2,Fe9 hx.c3,qc2 hx.c1 hx.w1,qc2 hx.c2 hx.w1,qc2 hx.c3 hx.w1,qc3 hx.c1 hx.w1,qc3 hx.c2 hx.w1,qc3 hx.c3 hx.w1,
    qc2 hx.c1.neg hx.w1,qc2 hx.c2.neg hx.w1,qc2 hx.c3.neg hx.w1,qc3 hx.c1.neg hx.w1,qc3 hx.c2.neg hx.w1,qc3 hx.c3.neg hx.w1,q7 hj (by omega)]
   rw[btD (m0 hj),bt (f8 hj)]
   rfl,trivial⟩)
  (fun s _=>by simp only[wa9,Da6];rw[bfD (A7 (Nat.lt_irrefl _))]) 0 (Nat.zero_le _) s trivial
 have h:=h.1
 rw[List.drop_zero] at h
 exact⟨_,h⟩
theorem Ud8 {c:List Pln} (hc:c.length≤1000000000):db2 c=some (zf2 (bnd c),[]):=by
 have ht:Y2 ⟨24,24,24⟩ (-1)=⟨-24,-24,-24⟩:=by
  unfold Y2
  rw[show W (24*-1)=-24 from by rw[ze9];rfl]
 obtain⟨m,hm⟩:=ee8 (pts c) (Fc3 c) Ve8 (⟨24,24,24⟩,⟨-24,-24,-24⟩)
 unfold db2 bnd
 simp only[l6,sa1,j9,kc7 hc,kc8 hc,ob4 hc,ob5 hc,ht,hm]
 cases ful c<;>rfl
theorem le6 (r:V3×V3×Bool):(Pd8 r1V r1V r1B).rd (zf2 r,[])=some r:=rfl
theorem We0 {c:List Pln} (hc:c.length≤1000000000):vb6 c=bnd c:=by unfold vb6;rw[Ud8 hc];exact yb8 _ (le6 _)
theorem We1 {c:List Pln} (hc:c.length≤1000000000):vb7 c=true:=by unfold vb7;rw[Ud8 hc];exact Sb6 _ (le6 _)
theorem Ge0 (x:Pt):(x.px==x.px&&(x.py==x.py&&(x.pz==x.pz&&(x.pw==x.pw&&true))))=true:=(Hd9 x x).2 rfl
theorem Ge1 (x:Pln):(x.n.x==x.n.x&&(x.n.y==x.n.y&&(x.n.z==x.n.z&&(x.b==x.b&&true))))=true:=by simp
theorem uc6 (l:List Pt) (hl:l.length≤1000000000):Da7 l l=some (b true,[]):=by
 have h:=fd9 (step:=ma8 ⟨l,l⟩) (mk:=fun j=>(⟨(j:Int)⟩:J1)) (c:=fun _=>false) (u:=1) (fin:=2) tX l hl
  (fun j hj=>by
   simp only[ma8,ha6,Int.toNat_natCast,q7 hj (by omega),Ge0]
   rw[btD (m0 hj),bt (f8 hj),bt (f8 hj)]
   rfl)
  (by simp only[ma8,ha6];rw[bfD (A7 (Nat.lt_irrefl _))]) 0 (Nat.zero_le _)
 rw[List.drop_zero,show (l.any fun _=>false)=false by simp] at h
 unfold Da7
 simp only[l6,j9]
 rw[show (⟨0⟩:J1)=⟨((0:Nat):Int)⟩ from rfl,h,bf (by simp)]
 rfl
theorem Fc5 (l:List Pt) (hl:l.length≤1000000000):Da8 l l=true:=by unfold Da8;rw[uc6 l hl];rfl
theorem Fc6 (l:List Pt) (hl:l.length≤1000000000):Da9 l l=true:=by unfold Da9;rw[uc6 l hl];rfl
theorem le7 (l:List Pln) (hl:l.length≤1000000000):Cb2 l l=some (b true,[]):=by
 have h:=fd9 (step:=Ua4 ⟨l,l⟩) (mk:=fun j=>(⟨(j:Int)⟩:pa2)) (c:=fun _=>false) (u:=1) (fin:=2) tP l hl
  (fun j hj=>by
   simp only[Ua4,Na4,Int.toNat_natCast,q7 hj (by omega),Ge1]
   rw[btD (m0 hj),bt (f8 hj),bt (f8 hj)]
   rfl)
  (by simp only[Ua4,Na4];rw[bfD (A7 (Nat.lt_irrefl _))]) 0 (Nat.zero_le _)
 rw[List.drop_zero,show (l.any fun _=>false)=false by simp] at h
 unfold Cb2
 simp only[l6,j9]
 rw[show (⟨0⟩:pa2)=⟨((0:Nat):Int)⟩ from rfl,h,bf (by simp)]
 rfl
theorem Ge2 (l:List Pln) (hl:l.length≤1000000000):Cb3 l l=true:=by unfold Cb3;rw[le7 l hl];rfl
theorem Ge3 (l:List Pln) (hl:l.length≤1000000000):Cb4 l l=true:=by unfold Cb4;rw[le7 l hl];rfl
end Go.Ev.Ce
namespace Go.Ev.Ce
open Go Go.Ev Go.Ev.L Go.Proofs
def Nx {σ:Type} (x:Stp σ) (E:Nat→Prop) (N:σ→Prop):Prop:=(∃ t,x=.exit t∧E t)∨∃ s,x=.next s∧N s
theorem Nx.sl {σ:Type} {c:Bool} {t e:Stp σ} {E:Nat→Prop} {N:σ→Prop} (h1:c=true→Nx t E N) (h2:c=false→Nx e E N):Nx (sl c t e) E N:=by cases c;exact h2 rfl;exact h1 rfl
theorem Nx.ex {σ:Type} {t:Nat} {E:Nat→Prop} {N:σ→Prop} (h:E t):Nx (.exit t) E N:=.inl ⟨t,rfl,h⟩
theorem Nx.nx {σ:Type} {s:σ} {E:Nat→Prop} {N:σ→Prop} (h:N s):Nx (.next s) E N:=.inr ⟨s,rfl,h⟩
theorem ya6 {σ τ : Type} {step : σ → Stp σ} {mk : Nat → τ → σ} (n : Nat) (I : Nat → τ → Prop) (E : Nat → σ → Prop) (hn : n ≤ 1000000000)
  (h:∀ j a,j < n→I j a→Nx (step (mk j a)) (fun t=>E t (mk j a)) (fun s=>∃ a',s=mk (j+1) a'∧I (j+1) a'))
  (hf:∀ j a,n≤j→I j a→∃ t,step (mk j a)=.exit t∧E t (mk j a)) (j0:Nat) (a:τ) (hi:I j0 a):∃ t s,lp step (mk j0 a)=(t,s)∧E t s:=by
 have key:=ic6 (step:=step) (I:=fun m s=>∃ j a,m=n - j∧s=mk j a∧I j a) (Q:=E) (fun m s ⟨j,a,hm,hs,ha⟩=>by
  subst hs
  by_cases hlt:j < n
  ·rcases h j a hlt ha with h1 | ⟨s',h1,a',h2,h3⟩
   ·exact .inl h1
   ·subst h2
    exact .inr ⟨_,n - (j+1),by omega,h1,j+1,a',rfl,rfl,h3⟩
  ·exact .inl (hf j a (by omega) ha)) (n - j0) (mk j0 a) (by omega) ⟨j0,a,rfl,rfl,hi⟩
 exact⟨_,_,rfl,key⟩
def Rd {ρ:Type} (R:RR ρ) (o:Option (b7×List b8)) (P:ρ→Prop):Prop:=∃ x r,o=some x∧R.rd x=some r∧P r
theorem Rd.p {ρ:Type} {R:RR ρ} {o:Option (b7×List b8)} {P:ρ→Prop} (h:Rd R o P):P (aa3 R o):=by
 obtain⟨x,r,h1,h2,h3⟩:=h
 rw[h1,yb8 R h2]
 exact h3
theorem Rd.g {ρ:Type} {R:RR ρ} {o:Option (b7×List b8)} {P:ρ→Prop} (h:Rd R o P):okO R o=true:=by
 obtain⟨x,r,h1,h2,h3⟩:=h
 rw[h1]
 exact Sb6 R h2
theorem Rd.sl {ρ:Type} {R:RR ρ} {c:Bool} {t e:Option (b7×List b8)} {P:ρ→Prop} (h1:c=true→Rd R t P) (h2:c=false→Rd R e P):Rd R (sl c t e) P:=by cases c;exact h2 rfl;exact h1 rfl
theorem lb5 (n : Int) (l : List Int) (j : Int) (h1 : 0 ≤ j) (h2 : j ≤ 1000000) (hn : 0 < n) (hn2 : n ≤ 1000000) :
  ∃ v j',E5 ⟨n,l,j⟩=⟨1,v,j'⟩∧0≤v∧v < n∧j≤j'∧j'≤j+1:=by
 unfold E5 xa0
 simp only
 by_cases h:j≥(l.length:Int)
 ·rw[btD h]
  exact⟨0,j,rfl,by omega,hn,by omega,by omega⟩
 ·rw[bfD h]
  have hW:W (W (j+1) - 1)=j:=by rw[Fd6,na5 (by omega) (by omega)];omega
  have hW2:W (j+1)=j+1:=na5 (by omega) (by omega)
  have hin:inB j l.length=true:=by rw[Se3];exact decide_eq_true (by omega)
  rw[hW,hW2,hin,zf1 _ hn (by omega),zf0 _ hn (by omega)]
  exact⟨_,_,rfl,Int.emod_nonneg _ (by omega),Int.emod_lt_of_pos _ hn,by omega,by omega⟩
def inV (v:V3):Bool:=smb 24 v.x&&(smb 24 v.y&&smb 24 v.z)
theorem lb6 (v:V3):inV v=true↔Sm 24 v.x∧Sm 24 v.y∧Sm 24 v.z:=by unfold inV;rw[Bool.and_eq_true,Bool.and_eq_true,Yb2,Yb2,Yb2]
theorem Ge4 (v:V3):kc9 v=some (b (inV v),[]):=by
 unfold kc9 inV smb
 cases h1:decide (v.x < -24)<;>cases h2:decide (v.x > 24)<;>cases h3:decide (v.y < -24)<;>cases h4:decide (v.y > 24)<;>cases h5:decide (v.z < -24)<;>cases h6:decide (v.z > 24)<;>rfl
theorem ff8 (v:V3):Bb8 v=inV v:=by unfold Bb8;rw[Ge4];rfl
theorem Ge5 (v:V3):Bb9 v=true:=by unfold Bb9;rw[Ge4];rfl
def sub (a b:V3):V3:=⟨a.x - b.x,a.y - b.y,a.z - b.z⟩
theorem le8 {a b:V3} (ha:inV a=true) (hb:inV b=true):jb2 a b=sub a b∧Sm 48 (sub a b).x∧Sm 48 (sub a b).y∧Sm 48 (sub a b).z:=by
 rw[lb6] at ha hb
 obtain⟨⟨a1,a2⟩,⟨a3,a4⟩,a5,a6⟩:=ha
 obtain⟨⟨b1,b2⟩,⟨b3,b4⟩,b5,b6⟩:=hb
 unfold jb2 sub
 rw[na5 (by omega) (by omega),na5 (by omega) (by omega),na5 (by omega) (by omega)]
 exact⟨rfl,⟨by show _≤a.x - b.x;omega,by show a.x - b.x≤_;omega⟩,⟨by show _≤a.y - b.y;omega,by show a.y - b.y≤_;omega⟩,⟨by show _≤a.z - b.z;omega,by show a.z - b.z≤_;omega⟩⟩
theorem Pb0 {a b c : V3} (ha : inV a = true) (hb : inV b = true) (hc : inV c = true) :
  mb8 (jb2 b a) (jb2 c a)=c9 (sub b a) (sub c a)∧Sm 4608 (c9 (sub b a) (sub c a)).x∧Sm 4608 (c9 (sub b a) (sub c a)).y∧Sm 4608 (c9 (sub b a) (sub c a)).z:=by
 obtain⟨e1,⟨u1,u2⟩,⟨u3,u4⟩,u5,u6⟩:=le8 hb ha
 obtain⟨e2,⟨v1,v2⟩,⟨v3,v4⟩,v5,v6⟩:=le8 hc ha
 rw[e1,e2,Ue7]
 generalize sub b a=p at *
 generalize sub c a=q at *
 have h1:=mb u3 u4 v5 v6;have h2:=mb u5 u6 v3 v4;have h3:=mb u5 u6 v1 v2;have h4:=mb u1 u2 v5 v6;have h5:=mb u1 u2 v3 v4;have h6:=mb u3 u4 v1 v2
 have k:Sm 4608 (c9 p q).x∧Sm 4608 (c9 p q).y∧Sm 4608 (c9 p q).z:=by unfold Sm c9;simp only;omega
 obtain⟨k1,k2,k3⟩:=k
 rw[jb0 (k1.mono (by omega)),jb0 (k2.mono (by omega)),jb0 (k3.mono (by omega))]
 exact⟨rfl,k1,k2,k3⟩
def J8 (a b c:V3):Pln×Bool :=
 if inV a&&(inV b&&inV c) then
  if g3 (c9 (sub b a) (sub c a))=0 then (⟨⟨0,0,0⟩,0⟩,false)
  else (⟨⟨Int.tdiv (c9 (sub b a) (sub c a)).x (g3 (c9 (sub b a) (sub c a))),Int.tdiv (c9 (sub b a) (sub c a)).y (g3 (c9 (sub b a) (sub c a))),Int.tdiv (c9 (sub b a) (sub c a)).z (g3 (c9 (sub b a) (sub c a)))⟩,
   dot ⟨Int.tdiv (c9 (sub b a) (sub c a)).x (g3 (c9 (sub b a) (sub c a))),Int.tdiv (c9 (sub b a) (sub c a)).y (g3 (c9 (sub b a) (sub c a))),Int.tdiv (c9 (sub b a) (sub c a)).z (g3 (c9 (sub b a) (sub c a)))⟩ a⟩,true)
 else (⟨⟨0,0,0⟩,0⟩,false)
theorem qc4 (v:V3):0≤g3 v:=by unfold g3;omega
theorem kd6 (a c d:V3):Ua3 a c d=some (.tup [.agg (tP.row (J8 a c d).1),b (J8 a c d).2],[]):=by
 unfold Ua3 J8
 simp only[ff8,Ge5]
 cases ha:inV a with
 | false=>rfl
 | true =>
  cases hc:inV c with
  | false=>rfl
  | true =>
   cases hd:inV d with
   | false=>rfl
   | true =>
    obtain⟨e,k1,k2,k3⟩:=Pb0 ha hc hd
    rw[e]
    generalize c9 (sub c a) (sub d a)=n at *
    have m1:=k1.mono (m:=1000000000000000000) (by omega)
    have m2:=k2.mono (m:=1000000000000000000) (by omega)
    have m3:=k3.mono (m:=1000000000000000000) (by omega)
    rw[Ee3 m1 m2 m3,jd2 m1 m2 m3]
    by_cases h0:g3 n=0
    ·rw[show (g3 n==0)=true from by rw[h0];rfl]
     simp only[Bool.and_self,if_true,h0]
     rfl
    ·have hp:=qc4 n
     have q1:=S3 (g:=g3 n) k1 (by omega)
     have q2:=S3 (g:=g3 n) k2 (by omega)
     have q3:=S3 (g:=g3 n) k3 (by omega)
     rw[show (g3 n==0)=false from by rw[beq_eq_false_iff_ne];exact h0,lf7 m1 m2 m3 h0]
     simp only[Bool.and_self,if_true,h0,if_false]
     rw[jb0 (q1.mono (by omega)),jb0 (q2.mono (by omega)),jb0 (q3.mono (by omega))]
     have hdot:ib0 ⟨Int.tdiv n.x (g3 n),Int.tdiv n.y (g3 n),Int.tdiv n.z (g3 n)⟩ a=dot ⟨Int.tdiv n.x (g3 n),Int.tdiv n.y (g3 n),Int.tdiv n.z (g3 n)⟩ a:=by
      unfold ib0
      simp only[Nb3,ic4]
      obtain⟨⟨a1,a2⟩,⟨a3,a4⟩,a5,a6⟩:=(lb6 a).1 ha
      have r1:=mb q1.1 q1.2 a1 a2;have r2:=mb q2.1 q2.2 a3 a4;have r3:=mb q3.1 q3.2 a5 a6
      rw[na5 (by omega) (by omega)]
      rfl
     rw[hdot]
     rfl
theorem te8 (a b c:V3):lb3 a b c=J8 a b c:=by unfold lb3;rw[kd6];rfl
theorem Ad8 (a b c:V3):lb4 a b c=true:=by unfold lb4;rw[kd6];rfl
theorem We2 (p:Pln) (v:V3):Rd (one r1I) (Ya1 p v) (fun _=>True):=by
 unfold Ya1
 simp only[Td3,Ge5,w6]
 exact Rd.sl (fun _=>⟨_,_,rfl,rfl,trivial⟩) fun _=>Rd.sl (fun _=>⟨_,_,rfl,rfl,trivial⟩) fun _=>Rd.sl (fun _=>⟨_,_,rfl,rfl,trivial⟩) fun _=>Rd.sl (fun _=>⟨_,_,rfl,rfl,trivial⟩) fun _=>⟨_,_,rfl,rfl,trivial⟩
theorem Ge6 (p:Pln) (v:V3):yc2 p v=true:=(We2 p v).g
theorem zf3 (P:Fa7) (hl:P.l5.length≤1000000000):∃ t s,lp (D6 P) ⟨0⟩=(t,s)∧(t=1∨t=2∨t=3):=by
 obtain⟨l,x1,x2,x3,x4,x5,x6,x7,x8⟩:=P
 refine ya6 (step:=D6 ⟨l,x1,x2,x3,x4,x5,x6,x7,x8⟩) (mk:=fun j (_:Unit)=>(⟨(j:Int)⟩:oa7)) l.length (fun _ _=>True) (fun t _=>t=1∨t=2∨t=3) hl (fun j a hj _=>?_) (fun j a hj _=>?_) 0 () trivial
 ·simp only[D6,ha4,Ge6,Int.toNat_natCast,q7 hj (show l.length≤4611686018427387904 from Nat.le_trans hl (by omega))]
  rw[btD (m0 hj),bt (f8 hj),w6]
  exact Nx.sl (fun _=>Nx.sl (fun _=>.ex (by simp)) fun _=>.nx ⟨(),rfl,trivial⟩) fun _=>.ex (by simp)
 ·simp only[D6,ha4]
  rw[bfD (by omega)]
  exact⟨_,rfl,by simp⟩
theorem zf4 (l:List V3) (hl:l.length≤1000000000) (a c:Nat) (ha:a < l.length) (hc:c < a):∃ t s,lp (X8 ⟨(a:Int),(c:Int)⟩) ⟨l,0⟩=(t,s)∧((t=1∨t=2)∧s.l5=l):=by
 refine ya6 (step:=X8 ⟨(a:Int),(c:Int)⟩) (mk:=fun j (_:Unit)=>(⟨l,(j:Int)⟩:oa8)) c (fun _ _=>True) (fun t s=>(t=1∨t=2)∧s.l5=l) (by omega) (fun j x hj _=>?_) (fun j x hj _=>?_) 0 () trivial
 ·simp only[X8,ta3,Ad8,Int.toNat_natCast,l6,j9,q7 hj (show c≤4611686018427387904 by omega)]
  rw[btD (m0 hj),bt (f8 ha),bt (f8 (show c < l.length by omega)),bt (f8 (show j < l.length by omega)),w6]
  generalize hP:Fa7.mk _ _ _ _ _ _ _ _ _=P3
  obtain⟨t,s,h1,h2⟩:=zf3 P3 (by subst hP;exact hl)
  rw[h1]
  rcases h2 with rfl | rfl | rfl
  ·exact .ex (by simp)
  ·exact .nx ⟨(),rfl,trivial⟩
  ·exact .nx ⟨(),rfl,trivial⟩
 ·simp only[X8,ta3]
  rw[bfD (by omega)]
  exact⟨_,rfl,by simp⟩
theorem zf5 (l:List V3) (hl:l.length≤1000000000) (a:Nat) (ha:a < l.length):∃ t s,lp (X9 ⟨(a:Int)⟩) ⟨l,0⟩=(t,s)∧((t=1∨t=2)∧s.l5=l):=by
 refine ya6 (step:=X9 ⟨(a:Int)⟩) (mk:=fun j (_:Unit)=>(⟨l,(j:Int)⟩:oa9)) a (fun _ _=>True) (fun t s=>(t=1∨t=2)∧s.l5=l) (by omega) (fun j x hj _=>?_) (fun j x hj _=>?_) 0 () trivial
 ·simp only[X9,ta4,l6,j9,q7 hj (show a≤4611686018427387904 by omega)]
  obtain⟨t,s,h1,h2,h3⟩:=zf4 l hl a j ha hj
  rw[btD (m0 hj),h1]
  rcases h2 with rfl | rfl
  ·exact .ex (by simp)
  ·exact .nx ⟨(),by rw[h3],trivial⟩
 ·simp only[X9,ta4]
  rw[bfD (by omega)]
  exact⟨_,rfl,by simp⟩
theorem Kb3 (l:List V3) (hl:l.length≤1000000000):Rd (one r1B) (Ya2 l) (fun _=>True):=by
 have key:∃ t s,lp (Y0 ⟨⟩) ⟨l,0⟩=(t,s)∧(t=1∨t=2):=by
  refine ya6 (step:=Y0 ⟨⟩) (mk:=fun j (_:Unit)=>(⟨l,(j:Int)⟩:pa0)) l.length (fun _ _=>True) (fun t s=>(t=1∨t=2)) hl (fun j x hj _=>?_) (fun j x hj _=>?_) 0 () trivial
  ·simp only[Y0,ta5,l6,j9,q7 hj (show l.length≤4611686018427387904 by omega)]
   obtain⟨t,s,h1,h2,h3⟩:=zf5 l hl j hj
   rw[btD (m0 hj),h1]
   rcases h2 with rfl | rfl
   ·exact .ex (by simp)
   ·exact .nx ⟨(),by rw[h3],trivial⟩
  ·simp only[Y0,ta5]
   rw[bfD (by omega)]
   exact⟨_,rfl,by simp⟩
 obtain⟨t,s,h1,h2⟩:=key
 unfold Ya2
 simp only[l6,j9]
 rw[h1]
 rcases h2 with rfl | rfl<;>exact⟨_,_,rfl,rfl,trivial⟩
theorem Ge7 (l:List V3) (hl:l.length≤1000000000):jb3 l=true:=(Kb3 l hl).g
end Go.Ev.Ce
namespace Go.Ev.Ce
open Go Go.Ev Go.Ev.L Go.Proofs
structure Fc (ph:Nat) (out:List Pln) (m:Nat):Prop where
 h:(ph=0∧out=[])∨ph=1
 l:out.length≤m
theorem Fc.more {ph m m':Nat} {out:List Pln} (h:Fc ph out m) (hm:m≤m'):Fc ph out m':=⟨h.h,Nat.le_trans h.l hm⟩
def phV (out:List V3):Nat:=match out with
 | []=>0
 | _::_=>1
theorem le9 (out:List V3) (x:V3):phV (out++[x])=1:=by cases out<;>rfl
theorem Fc7 (l:List V3) (x1 x2 x3:Int):app (bL tV l) [[i x1,i x2,i x3]]=bL tV (l++[⟨x1,x2,x3⟩]):=Ma0 tV l [⟨x1,x2,x3⟩]
theorem We3 {l:List V3} {m:Nat} (h:m < l.length):(((Nat.blt (0+m) (len (bL tV l)))&&(Nat.ble (0+3) (len (j6 (bL tV l) (0+m)))))&&(ia5 [(CK.int .i64),(CK.int .i64),(CK.int .i64)] (g9 (j6 (bL tV l) (0+m)) 0)))=true:=by
 rw[Nat.zero_add,Q3 tV h,na4,show Nat.blt m l.length=true from by rw[Nat.blt_eq];exact h]
 rfl
theorem ff9 {l:List V3} {m:Nat} (h:m < l.length):(((Nat.blt (0+m) (len (bL tV l)))&&(Nat.ble (2+1) (len (j6 (bL tV l) (0+m)))))&&(ia5 [(CK.int .i64)] (g9 (j6 (bL tV l) (0+m)) 2)))=true:=by
 rw[Nat.zero_add,Q3 tV h,na4,show Nat.blt m l.length=true from by rw[Nat.blt_eq];exact h]
 rfl
theorem gf0 {n:Nat} {l:List V3} (hn:l.length=n) (h:n≤1000000000):(Nat.beq n (len (bL tV l))&&Nat.ble ((n+1)*24) room)=true:=by
 subst hn
 rw[na4,Nat.beq_refl,Bool.true_and,Nat.ble_eq]
 unfold room
 omega
theorem We4 (x : List Int) (N : Nat) (h4 : 4 ≤ N) (h8 : N ≤ 8) (j0 : Int) (hj0 : 0 ≤ j0 ∧ j0 ≤ 10) :
  ∃ idx out,lp (xa1 ⟨(N:Int)⟩) ⟨0,0,x,j0,0,[]⟩=(2,⟨1,(N:Int),x,idx,N,bL tV out⟩)∧out.length=N:=by
 have key:=ya6 (step:=xa1 ⟨(N:Int)⟩) (mk:=fun j (a:Int×List V3)=>(⟨phV a.2,(j:Int),x,a.1,a.2.length,bL tV a.2⟩:u9)) N
  (fun j a=>a.2.length=j∧0≤a.1∧a.1≤10+4*j∧j≤N) (fun t s=>t=2∧∃ idx out,s=⟨1,(N:Int),x,idx,N,bL tV out⟩∧out.length=N) (by omega) (fun j a hj ha=>?_) (fun j a hj ha=>?_) 0 (j0,[]) ⟨rfl,hj0.1,by omega,by omega⟩
 ·obtain⟨t,s,e1,rfl,idx,out,e2,e3⟩:=key
  exact⟨idx,out,by rw[← e2];exact e1,e3⟩
 ·obtain⟨at0,out⟩:=a
  obtain⟨ho,ha1,ha2,_⟩:=ha
  simp only at ho ha1 ha2
  have hn:=q7 hj (show N≤4611686018427387904 by omega)
  obtain⟨v1,j1,d1,_,_,c1,b1⟩:=lb5 17 x at0 ha1 (by omega) (by omega) (by omega)
  obtain⟨v2,j2,d2,_,_,c2,b2⟩:=lb5 17 x j1 (by omega) (by omega) (by omega) (by omega)
  obtain⟨v3,j3,d3,_,_,c3,b3⟩:=lb5 17 x j2 (by omega) (by omega) (by omega) (by omega)
  obtain⟨v4,j4,d4,_,_,c4,b4⟩:=lb5 6 x j3 (by omega) (by omega) (by omega) (by omega)
  have leaf : ∀ (E : Nat → Prop) (x1 x2 x3 : Int), Nx (.next (⟨1, ((j + 1 : Nat) : Int), x, j4, j + 1, bL tV (out ++ [⟨x1, x2, x3⟩])⟩ : u9)) E
    (fun s=>∃ a':Int×List V3,s=⟨phV a'.2,((j+1:Nat):Int),x,a'.1,a'.2.length,bL tV a'.2⟩∧a'.2.length=j+1∧0≤a'.1∧a'.1≤10+4*((j+1:Nat):Int)∧j+1≤N):=fun E x1 x2 x3=>by
   have hl:(out++[(⟨x1,x2,x3⟩:V3)]).length=j+1:=by simp[ho]
   exact .nx ⟨(j4,out++[⟨x1,x2,x3⟩]),by simp only[le9,hl],hl,by show 0≤j4;omega,by show j4≤_;omega,by omega⟩
  cases out with
  | nil =>
   have hj0':j=0:=by simpa using ho.symm
   subst hj0'
   show Nx (ea2 Stp.next Stp.exit Stp.fail _ _) _ _
   simp only[ea2,l6,j9,d1,d2,d3,d4,hn]
   rw[btD (m0 hj)]
   have f1:decide (((0:Nat):Int) > 1)=false:=rfl
   have f2:decide (((0:Nat):Int) > 0)=false:=rfl
   have f3:decide (((0:Nat):Int) > 2)=false:=rfl
   have lf:∀ (E:Nat→Prop) (x1 x2 x3:Int),Nx (.next (⟨1,((0+1:Nat):Int),x,j4,1,[[i x1,i x2,i x3]]⟩:u9)) E _:=leaf
   simp only[f1,f2,f3,Ab0,Nat.beq_refl,Bool.and_true,w6]
   refine Nx.sl (fun _=>?_) (fun _=>?_)<;>refine Nx.sl (fun _=>?_) (fun _=>?_)
   all_goals first
    | exact lf _ _ _ _
    | (refine Nx.sl (fun _=>?_) (fun _=>?_)<;>exact lf _ _ _ _)
  | cons o os =>
   have h1:1≤j:=by simp only[List.length_cons] at ho;omega
   generalize hO:o::os=O at *
   have hph:phV O=1:=by subst hO;rfl
   have w1:W ((j:Int) - 1)=((j - 1:Nat):Int):=by rw[na5 (by omega) (by omega)];omega
   have i1:inB ((j - 1:Nat):Int) j=true:=f8 (by omega)
   have r1:=We3 (l:=O) (m:=j - 1) (by omega)
   have r1':=ff9 (l:=O) (m:=j - 1) (by omega)
   have rr:=gf0 ho (by omega)
   have f2:∀ {inst:Decidable ((j:Int) > 0)},@decide ((j:Int) > 0) inst=true:=decide_eq_true (by omega)
   show Nx (sel (Nat.beq (phV O) 1) (s6 Stp.next Stp.exit Stp.fail _ _) _) _ _
   rw[hph]
   show Nx (s6 Stp.next Stp.exit Stp.fail _ _) _ _
   by_cases h2:2≤j
   ·have w2:W ((j:Int) - 2)=((j - 2:Nat):Int):=by rw[na5 (by omega) (by omega)];omega
    have i2:inB ((j - 2:Nat):Int) j=true:=f8 (by omega)
    have r2:=We3 (l:=O) (m:=j - 2) (by omega)
    simp only[s6,l6,j9,d1,d2,d3,d4,hn,ho,w1,w2,i1,i2,Int.toNat_natCast,r1,r1',r2,rr,Fc7]
    rw[btD (m0 hj)]
    simp only[Nat.beq_refl,Bool.and_true,w6]
    repeat' (first | exact leaf _ _ _ _ | refine Nx.sl (fun _=>?_) (fun _=>?_))
   ·have hj1:j=1:=by omega
    subst hj1
    simp only[s6,l6,j9,d1,d2,d3,d4,hn,ho,w1,i1,Int.toNat_natCast,r1,r1',rr,Fc7]
    have f1:decide (((1:Nat):Int) > 1)=false:=rfl
    rw[btD (m0 hj)]
    simp only[f1,Ab0,Nat.beq_refl,Bool.and_true,w6]
    repeat' (first | exact leaf _ _ _ _ | refine Nx.sl (fun _=>?_) (fun _=>?_))
 ·obtain⟨at0,out⟩:=a
  obtain⟨ho,ha1,ha2,hjN⟩:=ha
  simp only at ho ha1 ha2
  have hj':j=N:=by omega
  subst hj'
  cases out with
  | nil=>simp only[List.length_nil] at ho;omega
  | cons o os =>
   refine⟨2,?_,rfl,at0,o::os,by rw[ho];rfl,ho⟩
   show s6 Stp.next Stp.exit Stp.fail _ _=_
   simp only[s6]
   rw[bfD (by omega)]
theorem Id7 {l:List V3} {n:Nat} {r:List (List b7)} {P:List V3→Prop} (hn:n=l.length) (hr:r=bL tV l) (h:P l):Rd (one (r1L tV)) (some (.sl 0 0 n 0,[⟨36,3,r,true,false,0⟩])) P:=by
 subst hn hr
 refine⟨_,l,rfl,?_,h⟩
 show Bool.rec (motive:=fun _=>Option (List V3)) none (some (slR tV (bL tV l) 0 l.length)) (Bool.and true (okS tV (bL tV l) 0 l.length))=_
 rw[ic2,wc9]
 rfl
theorem te9 (x:List Int):Rd (one (r1L tV)) (Fa8 x) (fun r=>4≤r.length∧r.length≤8):=by
 obtain⟨v,j,e1,a1,b1,c1,d1⟩:=lb5 5 x 0 (by omega) (by omega) (by omega) (by omega)
 have hN:W (4+v)=(((4+v).toNat:Nat):Int):=by rw[na5 (by omega) (by omega)];omega
 obtain⟨idx,out,e2,e3⟩:=We4 x (4+v).toNat (by omega) (by omega) j (by omega)
 unfold Fa8
 simp only[l6,j9,e1,hN,e2]
 have h4:4≤(4+v).toNat:=by omega
 have h8:(4+v).toNat≤8:=by omega
 generalize (4+v).toNat=N at *
 have s1:lsL tV N (fun k=>j6 (bL tV out) (0+k))=out:=by rw[← e3];exact ic2 tV out
 have s2:okL tV N (fun k=>j6 (bL tV out) (0+k))=true:=by rw[← e3];exact wc9 tV out
 have gf:jb3 out=true:=Ge7 out (by omega)
 rw[s1,s2,gf]
 simp only[Nat.beq_refl,Bool.and_true,w6,show Nat.beq 2 1=false from rfl,Ab0]
 refine Rd.sl (fun _=>?_) fun _=>Id7 e3.symm rfl ⟨by omega,by omega⟩
 have i0:inB 0 N=true:=f8 (j:=0) (by omega)
 have i1:inB 1 N=true:=f8 (j:=1) (by omega)
 have i2:inB 2 N=true:=f8 (j:=2) (by omega)
 have i3:inB 3 N=true:=f8 (j:=3) (by omega)
 have sp:∀ (v:V3) (x1 x2 x3:Int),S7 (tV.row v) 0 [i x1,i x2,i x3]=tV.row ⟨x1,x2,x3⟩:=fun _ _ _ _=>rfl
 have rl:∀ v:V3,Nat.ble (0+3) (len (tV.row v))=true:=fun _=>rfl
 have ck:∀ v:V3,ia5 [(CK.int .i64),(CK.int .i64),(CK.int .i64)] (g9 (tV.row v) 0)=true:=fun _=>rfl
 have gr:∀ (l:List V3) (k:Nat),l.length=N→k < 4→j6 (bL tV l) k=tV.row (gL tV l k):=fun l k hl hk=>Q3 tV (by omega)
 have bl:∀ (l:List V3) (k:Nat),l.length=N→k < 4→Nat.blt k (len (bL tV l))=true:=fun l k hl hk=>by rw[na4,Nat.blt_eq];omega
 have ls:∀ (l:List V3) (k:Nat) (v:V3),l.length=N→(l.set k v).length=N:=fun l k v hl=>by rw[List.length_set];exact hl
 rw[gr out 0 e3 (by omega),gr out 1 e3 (by omega)]
 simp only[sp,Ta3]
 rw[gr _ 2 (ls out 1 _ e3) (by omega)]
 simp only[sp,Ta3]
 rw[gr _ 3 (ls _ 2 _ (ls out 1 _ e3)) (by omega)]
 simp only[sp,Ta3,rl,ck,i0,i1,i2,i3,bl out 0 e3 (by omega),bl out 1 e3 (by omega),bl _ 2 (ls out 1 _ e3) (by omega),bl _ 3 (ls _ 2 _ (ls out 1 _ e3)) (by omega),Bool.and_true,w6]
 exact Id7 (by simp only[List.length_set];omega) rfl (by simp only[List.length_set];omega)
theorem Ge8 (x:List Int):vb8 x=true:=(te9 x).g
end Go.Ev.Ce
namespace Go.Ev.Ce
open Go Go.Ev Go.Ev.L Go.Proofs
theorem ad7 {l:List Pln} {k:Nat} (h:k < l.length):ldR tP (bL tP l) (0+k)=true:=by rw[Nat.zero_add];exact Kc8 tP h
theorem Fc8 {l:List Pln} {k:Nat} (h:k < l.length):rdR tP (bL tP l) (0+k)=gL tP l k:=by rw[Nat.zero_add];exact Kc7 tP h
theorem Ge9 {l:List Pln} {n:Nat} {r:List (List b7)} {P:List Pln→Prop} (hn:n≤l.length) (hr:r=bL tP l) (h:P (l.take n)):Rd (one (r1L tP)) (some (.sl 0 0 n 0,[⟨50,4,r,true,false,0⟩])) P:=by
 subst hr
 have e1:slR tP (bL tP l) 0 n=l.take n:=Kc6 tP (by rw[List.length_take];omega) fun k hk=>by
  rw[Nat.zero_add,Q3 tP (by omega)]
  congr 1
  simp[gL,List.getD_eq_getElem?_getD,List.getElem?_take,hk]
 have e2:okS tP (bL tP l) 0 n=true:=hb9 tP (f:=fun k=>gL tP l k) fun k hk=>by rw[Nat.zero_add,Q3 tP (by omega)]
 refine⟨_,l.take n,rfl,?_,h⟩
 show Bool.rec (motive:=fun _=>Option (List Pln)) none (some (slR tP (bL tP l) 0 n)) (Bool.and true (okS tP (bL tP l) 0 n))=_
 rw[e1,e2]
 rfl
end Go.Ev.Ce
section
namespace Go.Ev.Ce
open Go Go.Ev Go.Ev.L Go.Proofs
set_option maxRecDepth 100000
structure lb7 where
 va0:Int
 va1:Int
 va2:Int
 pb4:Int
 f9:List Pt
noncomputable def lc0:List (Nat×Sum):=[(102,Lb1)]
theorem Wc9:i4 prog G lc0:=⟨Xb2,trivial⟩
structure Ha8 where
 oe8:List Pt
 is8:Int
 f9:List Pt
 J4:Int
 J5:Int
 J6:Int
 da0:Int
structure U9 where
 is4:Int
 is9:Int
noncomputable def Nc4 (p:Ha8) (s:U9):St:=⟨(.unk::(.unk::((.ptr 1 0 0 0)::(.unk::((i s.is4)::(.unk::(.unk::((eL tX p.oe8)::((i p.is8)::((i s.is9)::(ra 12 []))))))))))),[⟨0,1,[[(eL tX p.f9)]],true,false,0⟩,⟨0,4,[[(i p.J4),(i p.J5),(i p.J6),(i p.da0)]],true,false,0⟩]⟩
noncomputable def ya7 {α:Type} (k:U9→α) (e:Nat→α) (z:α) (p:Ha8) (s:U9):α:=let t1:=(Ea9 (⟨(⟨p.J4,p.J5,p.J6⟩:V3),p.da0⟩:Pln) (gL tX p.oe8 s.is9.toNat));(sl (decide (s.is9 < p.is8)) (sl (inB s.is9 (List.length p.oe8)) (sl (t1==0) (k ⟨(W (s.is4+1)),(W (s.is9+1))⟩) (k ⟨s.is4,(W (s.is9+1))⟩)) z) (e 1))
noncomputable def Ea0 (p:Ha8) (s:U9):Stp U9:=ya7 .next .exit .fail p s
noncomputable def rb6:Lo Ha8 U9:=⟨En lc0,1,df0,[1,1,0,1,4,4],[2,4,7,8,9],.p,[⟨((.s (.o .unk))::((.s (.o .unk))::((.s (.o (.ptr 1 0 0 0)))::((.s (.o .unk))::((.s (.o (.int .i64)))::((.s (.o .unk))::((.s (.o .unk))::((.s (.c 4 (nL tX)))::((.s (.o (.int .i64)))::((.s (.o (.int .i64)))::(ru2 12 []))))))))))),[⟨0,1,true,(some [[(.c 4 (nL tX))]])⟩,⟨0,4,true,(some [[(.o (.int .i64)),(.o (.int .i64)),(.o (.int .i64)),(.o (.int .i64))]])⟩],fun a H=>(⟨(rL tX (slT a 7)),(toI (slT a 8)),(rL tX (slT (rwT (elT H 0) 0) 0)),(toI (slT (rwT (elT H 1) 0) 0)),(toI (slT (rwT (elT H 1) 0) 1)),(toI (slT (rwT (elT H 1) 0) 2)),(toI (slT (rwT (elT H 1) 0) 3))⟩,⟨(toI (slT a 4)),(toI (slT a 9))⟩)⟩],Ea0,[(some 0,fun p s=>⟨(.unk::(.unk::((.ptr 1 0 0 0)::(.unk::((i s.is4)::(.unk::(.unk::((eL tX p.oe8)::((i p.is8)::((i s.is9)::((b (decide (s.is9 < p.is8)))::(ra 11 [])))))))))))),[⟨0,1,[[(eL tX p.f9)]],true,false,0⟩,⟨0,4,[[(i p.J4),(i p.J5),(i p.J6),(i p.da0)]],true,false,0⟩]⟩)],Nc4⟩
theorem Nc5:rb6.Ok:=Lo.ok [] (by kernel_rfl) .nil rfl (.cons (fun a H=>by kernel_rfl) .nil) fun p s=>(.of @ya7 (fun F _ _ _ _ _=>by unfold ya7;(repeat' apply j5 (f:=F))<;>rfl) (by kernel_rfl))
structure Ja5 where
 alt:Nat
 bs0:Bool
 f9:List Pt
noncomputable def Ja6 {α:Type} (kk:Ja5→α) (x:lb7):α:=let t1:=(lp (Ea0 (⟨(rt tX x.f9),(↑(List.length x.f9):Int),(rt tX x.f9),x.va0,x.va1,x.va2,x.pb4⟩:Ha8)) (⟨0,0⟩:U9));(sl ((cnE tX x.f9)&&((cnE tX x.f9)&&true)) (sl (Nat.beq t1.1 1) (kk ⟨1,(decide (t1.2.is4 < 3)),(rt tX x.f9)⟩) (kk ⟨0,false,[]⟩)) (kk ⟨0,false,[]⟩))
noncomputable def Aa1 (x:lb7):Ja5:=Ja6 (fun r=>r) x
noncomputable def Cb5 (x:lb7) (r:Ja5):DT (b7×List b8):=(.ite (Nat.beq r.alt 1) (.ret ((b r.bs0),[⟨0,1,[[(eL tX r.f9)]],true,false,0⟩])) .fail)
theorem td5 {α β:Type} (F:α→β) (kk:Ja5→α) (x:lb7):F (Ja6 kk x)=Ja6 (fun r=>F (kk r)) x:=by unfold Ja6;(repeat' apply j5 (f:=F))<;>rfl
noncomputable def Pb1:Sum:=za8 ⟨[(.agg [(.o (.int .i64)),(.o (.int .i64)),(.o (.int .i64)),(.o (.int .i64))]),(.s (.o (.ptr 0 0 0 0)))],[⟨0,1,true,(some [[(.c 4 (nL tX))]])⟩],fun a H=>(⟨(toI (slT (cellsOf (slT a 0)) 0)),(toI (slT (cellsOf (slT a 0)) 1)),(toI (slT (cellsOf (slT a 0)) 2)),(toI (slT (cellsOf (slT a 0)) 3)),(rL tX (slT (rwT (elT H 0) 0) 0))⟩,())⟩ (fun x=>Cb5 x (Aa1 x))
theorem lc1:g8 prog G 101 Pb1:=w7 (enc:=fun x=>⟨[(.agg [(i x.va0),(i x.va1),(i x.va2),(i x.pb4)]),(.ptr 0 0 0 0)],[⟨0,1,[[(eL tX x.f9)]],true,false,0⟩]⟩) (fun a H=>by kernel_rfl) (bd Ef8 Wc9) fun x=>Ma1 (.s .p (.s .p (.s (.s .p (.b (.u rb6.ls))) .p))) [rb6.pr] (by kernel_rfl) (.cons Nc5 .nil) (Eq.trans (b:=Ja6 (fun r=>(Cb5 x r).run) x) (by kernel_rfl) (td5 (fun r=>(Cb5 x r).run) (fun r=>r) x).symm)
structure ba8 where
 ns0:Nat
 eh0:List (List b7)
 z6:List Pt
noncomputable def Na5:List (Nat×Sum):=[(101,Pb1)]
theorem vb9:i4 prog G Na5:=⟨lc1,trivial⟩
structure M4 where
 ns0:Nat
 is7:Int
 eh0:List (List b7)
structure o6 where
 is8:Int
 z6:List Pt
noncomputable def rb7 (p:M4) (s:o6):St:=⟨((.sl 0 0 p.ns0 0)::((.fn 101 [(.ptr 1 0 0 0)])::(ra 5 ((i p.is7)::((i s.is8)::(ra 10 [])))))),[⟨50,4,p.eh0,true,false,0⟩,⟨0,1,[[(eL tX s.z6)]],true,false,0⟩]⟩
noncomputable def H4 {α:Type} (k:o6→α) (e:Nat→α) (z:α) (p:M4) (s:o6):α:=let t1:=(Aa1 ⟨(rdR tP p.eh0 (0+s.is8.toNat)).n.x,(rdR tP p.eh0 (0+s.is8.toNat)).n.y,(rdR tP p.eh0 (0+s.is8.toNat)).n.z,(rdR tP p.eh0 (0+s.is8.toNat)).b,(rt tX s.z6)⟩);(sl (decide (s.is8 < p.is7)) (sl (inB s.is8 p.ns0) (sl (ldR tP p.eh0 (0+s.is8.toNat)) (sl ((cnE tX s.z6)&&true) (sl (Nat.beq t1.alt 1) (sl t1.bs0 (e 1) (k ⟨(W (s.is8+1)),t1.f9⟩)) z) z) z) z) (e 2))
noncomputable def K5 (p:M4) (s:o6):Stp o6:=H4 .next .exit .fail p s
noncomputable def pa3:Lo M4 o6:=⟨En Na5,2,zd7,[1,0,1,4,4],[0,1,7,8],.p,[⟨((.s (.o (.sl 0 0 (some 0) none)))::((.fn 101 [(.o (.ptr 1 0 0 0))])::(ru2 5 ((.s (.o (.int .i64)))::((.s (.o (.int .i64)))::(ru2 10 [])))))),[⟨50,4,true,none⟩,⟨0,1,true,(some [[(.c 4 (nL tX))]])⟩],fun a H=>(⟨(slN (slT a 0)),(toI (slT a 7)),(elT H 0)⟩,⟨(toI (slT a 8)),(rL tX (slT (rwT (elT H 1) 0) 0))⟩)⟩],K5,[(none,fun p s=>let t1:=(Aa1 ⟨(rdR tP p.eh0 (0+s.is8.toNat)).n.x,(rdR tP p.eh0 (0+s.is8.toNat)).n.y,(rdR tP p.eh0 (0+s.is8.toNat)).n.z,(rdR tP p.eh0 (0+s.is8.toNat)).b,(rt tX s.z6)⟩);⟨[(i s.is8)],[⟨50,4,p.eh0,true,false,0⟩,⟨0,1,[[(eL tX t1.f9)]],true,false,0⟩]⟩),(some 0,fun p s=>⟨((.sl 0 0 p.ns0 0)::((.fn 101 [(.ptr 1 0 0 0)])::(ra 5 ((i p.is7)::((i s.is8)::((b (decide (s.is8 < p.is7)))::(ra 9 []))))))),[⟨50,4,p.eh0,true,false,0⟩,⟨0,1,[[(eL tX s.z6)]],true,false,0⟩]⟩)],rb7⟩
theorem rb8:pa3.Ok:=Lo.ok [] (by kernel_rfl) .nil rfl (.cons (fun a H=>by kernel_rfl) .nil) fun p s=>(.of @H4 (fun F _ _ _ _ _=>by unfold H4;(repeat' apply j5 (f:=F))<;>rfl) (by kernel_rfl))
structure ba9 where
 alt:Nat
 is0:Int
 z6:List Pt
noncomputable def I4 {α:Type} (kk:ba9→α) (x:ba8):α:=let t1:=(lp (K5 (⟨x.ns0,(↑x.ns0:Int),x.eh0⟩:M4)) (⟨0,(rt tX x.z6)⟩:o6));let t2:=(Aa1 ⟨(rdR tP x.eh0 (0+t1.2.is8.toNat)).n.x,(rdR tP x.eh0 (0+t1.2.is8.toNat)).n.y,(rdR tP x.eh0 (0+t1.2.is8.toNat)).n.z,(rdR tP x.eh0 (0+t1.2.is8.toNat)).b,(rt tX t1.2.z6)⟩);(sl ((cnE tX x.z6)&&true) (sl (Nat.beq t1.1 1) (kk ⟨1,t1.2.is8,t2.f9⟩) (sl (Nat.beq t1.1 2) (kk ⟨1,(-1),t1.2.z6⟩) (kk ⟨0,0,[]⟩))) (kk ⟨0,0,[]⟩))
noncomputable def ca0 (x:ba8):ba9:=I4 (fun r=>r) x
noncomputable def ta7 (x:ba8) (r:ba9):DT (b7×List b8):=(.ite (Nat.beq r.alt 1) (.ret ((i r.is0),[⟨50,4,x.eh0,true,false,0⟩,⟨0,1,[[(eL tX r.z6)]],true,false,0⟩])) .fail)
theorem Ib0 {α β:Type} (F:α→β) (kk:ba9→α) (x:ba8):F (I4 kk x)=I4 (fun r=>F (kk r)) x:=by unfold I4;(repeat' apply j5 (f:=F))<;>rfl
noncomputable def Ra6:Sum:=za8 ⟨[(.s (.o (.sl 0 0 (some 0) none))),(.fn 101 [(.o (.ptr 1 0 0 0))])],[⟨50,4,true,none⟩,⟨0,1,true,(some [[(.c 4 (nL tX))]])⟩],fun a H=>(⟨(slN (slT a 0)),(elT H 0),(rL tX (slT (rwT (elT H 1) 0) 0))⟩,())⟩ (fun x=>ta7 x (ca0 x))
theorem Cb6:g8 prog G 163 Ra6:=w7 (enc:=fun x=>⟨[(.sl 0 0 x.ns0 0),(.fn 101 [(.ptr 1 0 0 0)])],[⟨50,4,x.eh0,true,false,0⟩,⟨0,1,[[(eL tX x.z6)]],true,false,0⟩]⟩) (fun a H=>by kernel_rfl) (bd De9 vb9) fun x=>Ma1 (.s .p (.s (.s .p (.b (.u pa3.ls))) .p)) [pa3.pr] (by kernel_rfl) (.cons rb8 .nil) (Eq.trans (b:=I4 (fun r=>(ta7 x r).run) x) (by kernel_rfl) (Ib0 (fun r=>(ta7 x r).run) (fun r=>r) x).symm)
structure ca1 where
 ns0:Nat
 eh0:List (List b7)
 z6:List Pt
noncomputable def Na6:List (Nat×Sum):=[(163,Ra6),(101,Pb1)]
theorem wb0:i4 prog G Na6:=⟨Cb6,lc1,trivial⟩
structure M5 where
 ns0:Nat
structure r9 where
 is5:Int
 is6:Int
 eh0:List (List b7)
 z6:List Pt
noncomputable def rb9 (p:M5) (s:r9):St:=⟨((.sl 0 0 p.ns0 0)::((.fn 101 [(.ptr 1 0 0 0)])::(ra 3 ((i s.is5)::((i s.is6)::(ra 35 [])))))),[⟨50,4,s.eh0,true,false,0⟩,⟨0,1,[[(eL tX s.z6)]],true,false,0⟩]⟩
noncomputable def H5 {α:Type} (k:r9→α) (e:Nat→α) (z:α) (p:M5) (s:r9):α:=let t1:=(Aa1 ⟨(rdR tP s.eh0 (0+s.is6.toNat)).n.x,(rdR tP s.eh0 (0+s.is6.toNat)).n.y,(rdR tP s.eh0 (0+s.is6.toNat)).n.z,(rdR tP s.eh0 (0+s.is6.toNat)).b,(rt tX s.z6)⟩);(sl (decide (s.is6 < (↑p.ns0:Int))) (sl (inB s.is6 p.ns0) (sl (ldR tP s.eh0 (0+s.is6.toNat)) (sl ((cnE tX s.z6)&&true) (sl (Nat.beq t1.alt 1) (sl (!t1.bs0) (sl (inB s.is5 p.ns0) (sl ((Nat.blt (0+s.is5.toNat) (len s.eh0))&&(Nat.ble (0+4) (len (j6 s.eh0 (0+s.is5.toNat))))) (k ⟨(W (s.is5+1)),(W (s.is6+1)),(setAt s.eh0 (0+s.is5.toNat) (S7 (j6 s.eh0 (0+s.is5.toNat)) 0 [(i (rdR tP s.eh0 (0+s.is6.toNat)).n.x),(i (rdR tP s.eh0 (0+s.is6.toNat)).n.y),(i (rdR tP s.eh0 (0+s.is6.toNat)).n.z),(i (rdR tP s.eh0 (0+s.is6.toNat)).b)])),t1.f9⟩) z) z) (k ⟨s.is5,(W (s.is6+1)),s.eh0,t1.f9⟩)) z) z) z) z) (e 1))
noncomputable def C8 (p:M5) (s:r9):Stp r9:=H5 .next .exit .fail p s
noncomputable def pa4:Lo M5 r9:=⟨En Na6,2,tf7,[1,1,1,0,1,4,4],[0,1,5,6],.p,[⟨((.s (.o (.sl 0 0 (some 0) none)))::((.fn 101 [(.o (.ptr 1 0 0 0))])::(ru2 3 ((.s (.o (.int .i64)))::((.s (.o (.int .i64)))::(ru2 35 [])))))),[⟨50,4,true,none⟩,⟨0,1,true,(some [[(.c 4 (nL tX))]])⟩],fun a H=>(⟨(slN (slT a 0))⟩,⟨(toI (slT a 5)),(toI (slT a 6)),(elT H 0),(rL tX (slT (rwT (elT H 1) 0) 0))⟩)⟩],C8,[(some 0,fun p s=>⟨((.sl 0 0 p.ns0 0)::((.fn 101 [(.ptr 1 0 0 0)])::(ra 3 ((i s.is5)::((i s.is6)::(ra 9 ((i s.is6)::((.sl 0 0 p.ns0 0)::((i (↑p.ns0:Int))::((b (decide (s.is6 < (↑p.ns0:Int))))::(ra 22 []))))))))))),[⟨50,4,s.eh0,true,false,0⟩,⟨0,1,[[(eL tX s.z6)]],true,false,0⟩]⟩)],rb9⟩
theorem sb0:pa4.Ok:=Lo.ok [] (by kernel_rfl) .nil rfl (.cons (fun a H=>by kernel_rfl) .nil) fun p s=>(.of @H5 (fun F _ _ _ _ _=>by unfold H5;(repeat' apply j5 (f:=F))<;>rfl) (by kernel_rfl))
structure ca2 where
 alt:Nat
 ns0:Nat
 eh0:List (List b7)
 z6:List Pt
noncomputable def I5 {α:Type} (kk:ca2→α) (x:ca1):α:=let t1:=(ca0 ⟨x.ns0,x.eh0,(rt tX x.z6)⟩);let t2:=(lp (C8 (⟨x.ns0⟩:M5)) (⟨t1.is0,(W (t1.is0+1)),x.eh0,(rt tX t1.z6)⟩:r9));(sl ((cnE tX x.z6)&&true) (sl (Nat.beq t1.alt 1) (sl (t1.is0==(-1)) (kk ⟨1,x.ns0,x.eh0,t1.z6⟩) (sl ((cnE tX t1.z6)&&true) (sl (Nat.beq t2.1 1) (sl (inB t2.2.is5 (x.ns0+1)) (sl (inB t2.2.is5 (x.ns0+1)) (kk ⟨1,(t2.2.is5.toNat - 0),(app (J7 t2.2.eh0 (0+t2.2.is5.toNat)) (app (List.replicate (x.ns0 - t2.2.is5.toNat) [(i 0),(i 0),(i 0),(i 0)]) (g9 t2.2.eh0 ((0+t2.2.is5.toNat)+(x.ns0 - t2.2.is5.toNat))))),t2.2.z6⟩) (kk ⟨0,0,[],[]⟩)) (kk ⟨0,0,[],[]⟩)) (kk ⟨0,0,[],[]⟩)) (kk ⟨0,0,[],[]⟩))) (kk ⟨0,0,[],[]⟩)) (kk ⟨0,0,[],[]⟩))
noncomputable def I6 (x:ca1):ca2:=I5 (fun r=>r) x
noncomputable def ta8 (x:ca1) (r:ca2):DT (b7×List b8):=(.ite (Nat.beq r.alt 1) (.ret ((.sl 0 0 r.ns0 0),[⟨50,4,r.eh0,true,false,0⟩,⟨0,1,[[(eL tX r.z6)]],true,false,0⟩])) .fail)
theorem Ib1 {α β:Type} (F:α→β) (kk:ca2→α) (x:ca1):F (I5 kk x)=I5 (fun r=>F (kk r)) x:=by unfold I5;(repeat' apply j5 (f:=F))<;>rfl
noncomputable def va7:Sum:=za8 ⟨[(.s (.o (.sl 0 0 (some 0) none))),(.fn 101 [(.o (.ptr 1 0 0 0))])],[⟨50,4,true,none⟩,⟨0,1,true,(some [[(.c 4 (nL tX))]])⟩],fun a H=>(⟨(slN (slT a 0)),(elT H 0),(rL tX (slT (rwT (elT H 1) 0) 0))⟩,())⟩ (fun x=>ta8 x (I6 x))
theorem Na7:g8 prog G 99 va7:=w7 (enc:=fun x=>⟨[(.sl 0 0 x.ns0 0),(.fn 101 [(.ptr 1 0 0 0)])],[⟨50,4,x.eh0,true,false,0⟩,⟨0,1,[[(eL tX x.z6)]],true,false,0⟩]⟩) (fun a H=>by kernel_rfl) (bd b99 wb0) fun x=>Ma1 (.s .p (.s .p (.s .p (.s (.s .p (.b (.u pa4.ls))) .p)))) [pa4.pr] (by kernel_rfl) (.cons sb0 .nil) (Eq.trans (b:=I5 (fun r=>(ta8 x r).run) x) (by kernel_rfl) (Ib1 (fun r=>(ta8 x r).run) (fun r=>r) x).symm)
structure pa5 where
 ns0:Nat
 eh0:List (List b7)
noncomputable def Ea1:List (Nat×Sum):=[]
theorem Pb2:i4 prog G Ea1:=trivial
structure D7 where
 ns0:Nat
 os4:Nat
 ns4:Nat
structure p6 where
 is3:Int
 is5:Int
 eh0:List (List b7)
noncomputable def Ib2 (p:D7) (s:p6):St:=⟨((.sl 0 0 p.ns0 0)::(.unk::(.unk::((i s.is3)::((.sl 0 p.os4 p.ns4 0)::((i s.is5)::(ra 55 []))))))),[⟨50,4,s.eh0,true,false,0⟩]⟩
noncomputable def O3 {α:Type} (k:p6→α) (e:Nat→α) (z:α) (p:D7) (s:p6):α:=(sl (decide (s.is5 < (↑p.ns4:Int))) (sl (inB s.is5 p.ns4) (sl (ldR tP s.eh0 (p.os4+s.is5.toNat)) (sl (inB (W (s.is5 - 1)) p.ns4) (sl (ldR tP s.eh0 (p.os4+(W (s.is5 - 1)).toNat)) (sl (!(((rdR tP s.eh0 (p.os4+s.is5.toNat)).n.x==(rdR tP s.eh0 (p.os4+(W (s.is5 - 1)).toNat)).n.x)&&(((rdR tP s.eh0 (p.os4+s.is5.toNat)).n.y==(rdR tP s.eh0 (p.os4+(W (s.is5 - 1)).toNat)).n.y)&&(((rdR tP s.eh0 (p.os4+s.is5.toNat)).n.z==(rdR tP s.eh0 (p.os4+(W (s.is5 - 1)).toNat)).n.z)&&(((rdR tP s.eh0 (p.os4+s.is5.toNat)).b==(rdR tP s.eh0 (p.os4+(W (s.is5 - 1)).toNat)).b)&&true))))) (sl (inB s.is5 p.ns4) (sl (ldR tP s.eh0 (p.os4+s.is5.toNat)) (sl (inB s.is3 p.ns0) (sl ((Nat.blt (0+s.is3.toNat) (len s.eh0))&&(Nat.ble (0+4) (len (j6 s.eh0 (0+s.is3.toNat))))) (k ⟨(W (s.is3+1)),(W (s.is5+1)),(setAt s.eh0 (0+s.is3.toNat) (S7 (j6 s.eh0 (0+s.is3.toNat)) 0 [(i (rdR tP s.eh0 (p.os4+s.is5.toNat)).n.x),(i (rdR tP s.eh0 (p.os4+s.is5.toNat)).n.y),(i (rdR tP s.eh0 (p.os4+s.is5.toNat)).n.z),(i (rdR tP s.eh0 (p.os4+s.is5.toNat)).b)]))⟩) z) z) z) z) (k ⟨s.is3,(W (s.is5+1)),s.eh0⟩)) z) z) z) z) (e 1))
noncomputable def r4 (p:D7) (s:p6):Stp p6:=O3 .next .exit .fail p s
noncomputable def Aa2:Lo D7 p6:=⟨En Ea1,1,De2,[1,1,0,1,4,4,1,0,4,1,2,1,0,1,4,4],[0,3,4,5],.p,[⟨((.s (.o (.sl 0 0 (some 0) none)))::((.s (.o .unk))::((.s (.o .unk))::((.s (.o (.int .i64)))::((.s (.o (.sl 0 0 none none)))::((.s (.o (.int .i64)))::(ru2 55 []))))))),[⟨50,4,true,none⟩],fun a H=>(⟨(slN (slT a 0)),(slO (slT a 4)),(slN (slT a 4))⟩,⟨(toI (slT a 3)),(toI (slT a 5)),(elT H 0)⟩)⟩],r4,[(some 2,fun p s=>⟨((.sl 0 0 p.ns0 0)::(.unk::(.unk::((i s.is3)::((.sl 0 p.os4 p.ns4 0)::((i s.is5)::(ra 23 ((i s.is5)::((.sl 0 p.os4 p.ns4 0)::((i (↑p.ns4:Int))::((b (decide (s.is5 < (↑p.ns4:Int))))::(ra 28 [])))))))))))),[⟨50,4,s.eh0,true,false,0⟩]⟩)],Ib2⟩
theorem Ib3:Aa2.Ok:=Lo.ok [] (by kernel_rfl) .nil rfl (.cons (fun a H=>by kernel_rfl) .nil) fun p s=>(.of @O3 (fun F _ _ _ _ _=>by unfold O3;(repeat' apply j5 (f:=F))<;>rfl) (by kernel_rfl))
structure T2 where
 ns0:Nat
 eh0:List (List b7)
structure s8 where
 is3:Int
noncomputable def Ib4 (p:T2) (s:s8):St:=⟨((.sl 0 0 p.ns0 0)::(.unk::(.unk::((i s.is3)::(ra 57 []))))),[⟨50,4,p.eh0,true,false,0⟩]⟩
noncomputable def O4 {α:Type} (k:s8→α) (e:Nat→α) (z:α) (p:T2) (s:s8):α:=let t1:=(lp (r4 (⟨p.ns0,(0+s.is3.toNat),(p.ns0 - s.is3.toNat)⟩:D7)) (⟨s.is3,1,p.eh0⟩:p6));(sl (decide (s.is3 < (↑p.ns0:Int))) (sl (inB s.is3 p.ns0) (sl (ldR tP p.eh0 (0+s.is3.toNat)) (sl (inB (W (s.is3 - 1)) p.ns0) (sl (ldR tP p.eh0 (0+(W (s.is3 - 1)).toNat)) (sl (((rdR tP p.eh0 (0+s.is3.toNat)).n.x==(rdR tP p.eh0 (0+(W (s.is3 - 1)).toNat)).n.x)&&(((rdR tP p.eh0 (0+s.is3.toNat)).n.y==(rdR tP p.eh0 (0+(W (s.is3 - 1)).toNat)).n.y)&&(((rdR tP p.eh0 (0+s.is3.toNat)).n.z==(rdR tP p.eh0 (0+(W (s.is3 - 1)).toNat)).n.z)&&(((rdR tP p.eh0 (0+s.is3.toNat)).b==(rdR tP p.eh0 (0+(W (s.is3 - 1)).toNat)).b)&&true)))) (sl (inB s.is3 (p.ns0+1)) (sl (Nat.beq t1.1 1) (sl (inB t1.2.is3 (p.ns0+1)) (sl (inB t1.2.is3 (p.ns0+1)) (e 1) z) z) z) z) (k ⟨(W (s.is3+1))⟩)) z) z) z) z) (e 2))
noncomputable def R3 (p:T2) (s:s8):Stp s8:=O4 .next .exit .fail p s
noncomputable def Aa3:Lo T2 s8:=⟨En Ea1,1,De2,[1,1,0,1,4,4],[0,3],(.s .p (.s (.b (.s .p (.c (.s .p (.s (.s .p (.b (.u Aa2.ls))) .p)) .p))) .p)),[⟨((.s (.o (.sl 0 0 (some 0) none)))::((.s (.o .unk))::((.s (.o .unk))::((.s (.o (.int .i64)))::(ru2 57 []))))),[⟨50,4,true,none⟩],fun a H=>(⟨(slN (slT a 0)),(elT H 0)⟩,⟨(toI (slT a 3))⟩)⟩],R3,[(none,fun p s=>let t1:=(lp (r4 (⟨p.ns0,(0+s.is3.toNat),(p.ns0 - s.is3.toNat)⟩:D7)) (⟨s.is3,1,p.eh0⟩:p6));⟨[(.sl 0 0 (t1.2.is3.toNat - 0) 0)],[⟨50,4,(app (J7 t1.2.eh0 (0+t1.2.is3.toNat)) (app (List.replicate (p.ns0 - t1.2.is3.toNat) [(i 0),(i 0),(i 0),(i 0)]) (g9 t1.2.eh0 ((0+t1.2.is3.toNat)+(p.ns0 - t1.2.is3.toNat))))),true,false,0⟩]⟩),(some 0,fun p s=>⟨((.sl 0 0 p.ns0 0)::(.unk::(.unk::((i s.is3)::(ra 6 ((i s.is3)::((.sl 0 0 p.ns0 0)::((i (↑p.ns0:Int))::((b (decide (s.is3 < (↑p.ns0:Int))))::(ra 47 [])))))))))),[⟨50,4,p.eh0,true,false,0⟩]⟩)],Ib4⟩
theorem Ib5:Aa3.Ok:=Lo.ok [Aa2.pr] (by kernel_rfl) (.cons Ib3 .nil) rfl (.cons (fun a H=>by kernel_rfl) .nil) fun p s=>(.of @O4 (fun F _ _ _ _ _=>by unfold O4;(repeat' apply j5 (f:=F))<;>rfl) (by kernel_rfl))
structure pa6 where
 alt:Nat
 ns0:Nat
 eh0:List (List b7)
noncomputable def Q5 {α:Type} (kk:pa6→α) (x:pa5):α:=let t1:=(lp (R3 (⟨x.ns0,x.eh0⟩:T2)) (⟨1⟩:s8));let t2:=(lp (r4 (⟨x.ns0,(0+t1.2.is3.toNat),(x.ns0 - t1.2.is3.toNat)⟩:D7)) (⟨t1.2.is3,1,x.eh0⟩:p6));(sl (decide ((↑x.ns0:Int) < 2)) (kk ⟨1,x.ns0,x.eh0⟩) (sl (Nat.beq t1.1 1) (kk ⟨1,(t2.2.is3.toNat - 0),(app (J7 t2.2.eh0 (0+t2.2.is3.toNat)) (app (List.replicate (x.ns0 - t2.2.is3.toNat) [(i 0),(i 0),(i 0),(i 0)]) (g9 t2.2.eh0 ((0+t2.2.is3.toNat)+(x.ns0 - t2.2.is3.toNat)))))⟩) (sl (Nat.beq t1.1 2) (kk ⟨1,x.ns0,x.eh0⟩) (kk ⟨0,0,[]⟩))))
noncomputable def Y5 (x:pa5):pa6:=Q5 (fun r=>r) x
noncomputable def Ea2 (x:pa5) (r:pa6):DT (b7×List b8):=(.ite (Nat.beq r.alt 1) (.ret ((.sl 0 0 r.ns0 0),[⟨50,4,r.eh0,true,false,0⟩])) .fail)
theorem Zb1 {α β:Type} (F:α→β) (kk:pa6→α) (x:pa5):F (Q5 kk x)=Q5 (fun r=>F (kk r)) x:=by unfold Q5;(repeat' apply j5 (f:=F))<;>rfl
noncomputable def Fa9:Sum:=za8 ⟨[(.s (.o (.sl 0 0 (some 0) none)))],[⟨50,4,true,none⟩],fun a H=>(⟨(slN (slT a 0)),(elT H 0)⟩,())⟩ (fun x=>Ea2 x (Y5 x))
theorem Za3:g8 prog G 105 Fa9:=w7 (enc:=fun x=>⟨[(.sl 0 0 x.ns0 0)],[⟨50,4,x.eh0,true,false,0⟩]⟩) (fun a H=>by kernel_rfl) (bd yf1 Pb2) fun x=>Ma1 (.s .p (.s .p (.s (.s .p (.b (.u Aa3.ls))) .p))) [Aa3.pr] (by kernel_rfl) (.cons Ib5 .nil) (Eq.trans (b:=Q5 (fun r=>(Ea2 x r).run) x) (by kernel_rfl) (Zb1 (fun r=>(Ea2 x r).run) (fun r=>r) x).symm)
noncomputable def kd7:List (Nat×Sum):=[]
theorem Xc0:i4 prog G kd7:=trivial
noncomputable def Ua5 (x:Int) (y:Int):Option (b7×List b8):=(sl (decide (x < y)) (some ((i (-1)),[])) (sl (decide (x > y)) (some ((i 1),[])) (some ((i 0),[]))))
noncomputable def qa9 (x:Int) (y:Int):Int:=aa3 (one r1I) (Ua5 x y)
noncomputable def ra0 (x:Int) (y:Int):Bool:=okO (one r1I) (Ua5 x y)
noncomputable def Pb3:Sum:=Sa3 cI cI (fun x y=>.guard (ra0 x y) (.ret ((one r1I).enc (qa9 x y),[])))
theorem lc2:g8 prog G 179 Pb3:=rc6 (bd If4 Xc0) (one r1I) (o:=Ua5) fun x y=>q8 (by kernel_rfl)
noncomputable def Nc6:List (Nat×Sum):=[(179,Pb3)]
theorem Fc9:i4 prog G Nc6:=⟨lc2,trivial⟩
noncomputable def Ha9 (x:Pln) (y:Pln):Option (b7×List b8):=let t1:=(qa9 x.n.x y.n.x);let t2:=(qa9 x.n.y y.n.y);let t3:=(qa9 x.n.z y.n.z);let t4:=(qa9 x.b y.b);(sl (ra0 x.n.x y.n.x) (sl (t1==0) (sl (ra0 x.n.y y.n.y) (sl (t2==0) (sl (ra0 x.n.z y.n.z) (sl (t3==0) (sl (ra0 x.b y.b) (sl (t4==0) (some ((i t4),[])) (some ((i t4),[]))) none) (some ((i t3),[]))) none) (some ((i t2),[]))) none) (some ((i t1),[]))) none)
noncomputable def Wa4 (x:Pln) (y:Pln):Int:=aa3 (one r1I) (Ha9 x y)
noncomputable def Wa5 (x:Pln) (y:Pln):Bool:=okO (one r1I) (Ha9 x y)
noncomputable def sb1:Sum:=Sa3 (ua9 tP) (ua9 tP) (fun x y=>.guard (Wa5 x y) (.ret ((one r1I).enc (Wa4 x y),[])))
theorem Nc7:g8 prog G 104 sb1:=rc6 (bd Ff1 Fc9) (one r1I) (o:=Ha9) fun x y=>q8 (by kernel_rfl)
noncomputable def Ud9:List (Nat×Sum):=[(164,Bb2)]
theorem Id8:i4 prog G Ud9:=⟨bc9,trivial⟩
noncomputable def Cb7 (x:V3):Option (b7×List b8):=let t1:=(Da1 24 [x.x,x.y,x.z]);(sl (Da2 24 [x.x,x.y,x.z]) (some ((b t1),[])) none)
noncomputable def Ga0 (x:V3):Bool:=aa3 (one r1B) (Cb7 x)
noncomputable def Ga1 (x:V3):Bool:=okO (one r1B) (Cb7 x)
noncomputable def Cb8:Sum:=S5 (ua9 tV) (fun x=>.guard (Ga1 x) (.ret ((one r1B).enc (Ga0 x),[])))
theorem Lb3:g8 prog G 107 Cb8:=Pa9 (bd Ff2 Id8) (one r1B) (o:=Cb7) fun x=>q8 (by kernel_rfl)
noncomputable def Vd0:List (Nat×Sum):=[(87,Qa3),(107,Cb8),(108,lb2)]
theorem Id9:i4 prog G Vd0:=⟨Ua0,Lb3,Bb1,trivial⟩
noncomputable def Cb9 (x:List Pln) (y:V3):Option (b7×List b8):=let t1:=(oa0 [(rt tP x)]);let t2:=(Ga0 y);let t3:=(fa5 (rt tP x) (⟨y.x,y.y,y.z,1⟩:Pt));(sl ((okE tP x)&&true) (sl (oa1 [(rt tP x)]) (sl t1 (sl (Ga1 y) (sl t2 (sl (okE tP x) (sl (fa6 (rt tP x) (⟨y.x,y.y,y.z,1⟩:Pt)) (some ((b t3),[])) none) none) (some ((b false),[]))) none) (some ((b false),[]))) none) none)
noncomputable def jb4 (x:List Pln) (y:V3):Bool:=aa3 (one r1B) (Cb9 x y)
noncomputable def jb5 (x:List Pln) (y:V3):Bool:=okO (one r1B) (Cb9 x y)
noncomputable def yc5:Sum:=Sa3 (Fa1 tP) (ua9 tV) (fun x y=>.guard (jb5 x y) (.ret ((one r1B).enc (jb4 x y),[])))
theorem Tc4:g8 prog G 28 yc5:=rc6 (bd b28 Id9) (one r1B) (o:=Cb9) fun x y=>q8 (by kernel_rfl)
noncomputable def td6:List (Nat×Sum):=[(87,Qa3),(88,pc9),(92,Ya0)]
theorem kd8:i4 prog G td6:=⟨Ua0,yc0,ub2,trivial⟩
noncomputable def db7 (x:List Pln) (y:List Pln):Option (b7×List b8):=let t1:=(oa0 [(rt tP x),(rt tP y)]);let t2:=(ib6 [(rt tP x),(rt tP y)]);let t3:=(ta0 (rt tP t2));(sl ((okE tP x)&&((okE tP y)&&true)) (sl (oa1 [(rt tP x),(rt tP y)]) (sl (!t1) (some ((b true),[])) (sl ((okE tP x)&&((okE tP y)&&true)) (sl (ib7 [(rt tP x),(rt tP y)]) (sl (okE tP t2) (sl (ta1 (rt tP t2)) (some ((b (!t3)),[])) none) none) none) none)) none) none)
noncomputable def db8 (x:List Pln) (y:List Pln):Bool:=aa3 (one r1B) (db7 x y)
noncomputable def db9 (x:List Pln) (y:List Pln):Bool:=okO (one r1B) (db7 x y)
noncomputable def Gc0:Sum:=Sa3 (Fa1 tP) (Fa1 tP) (fun x y=>.guard (db9 x y) (.ret ((one r1B).enc (db8 x y),[])))
theorem td7:g8 prog G 31 Gc0:=rc6 (bd b31 kd8) (one r1B) (o:=db7) fun x y=>q8 (by kernel_rfl)
structure Wa6 where
 va0:Int
 va1:Int
 va2:Int
 pb4:Int
 d7:List Pln
noncomputable def Nc8:List (Nat×Sum):=[(108,lb2)]
theorem Gc1:i4 prog G Nc8:=⟨Bb1,trivial⟩
structure Ia0 where
 alt:Nat
 bs0:Bool
noncomputable def xa2 {α:Type} (kk:Ia0→α) (x:Wa6):α:=let t1:=(fa5 (rt tP x.d7) (⟨x.va0,x.va1,x.va2,x.pb4⟩:Pt));(sl (okE tP x.d7) (sl (fa6 (rt tP x.d7) (⟨x.va0,x.va1,x.va2,x.pb4⟩:Pt)) (kk ⟨1,(!t1)⟩) (kk ⟨0,false⟩)) (kk ⟨0,false⟩))
noncomputable def Wa7 (x:Wa6):Ia0:=xa2 (fun r=>r) x
noncomputable def jb6 (x:Wa6) (r:Ia0):DT (b7×List b8):=(.ite (Nat.beq r.alt 1) (.ret ((b r.bs0),[⟨0,1,[[(eL tP x.d7)]],true,false,0⟩])) .fail)
theorem Xc1 {α β:Type} (F:α→β) (kk:Ia0→α) (x:Wa6):F (xa2 kk x)=xa2 (fun r=>F (kk r)) x:=by unfold xa2;(repeat' apply j5 (f:=F))<;>rfl
noncomputable def cc4:Sum:=za8 ⟨[(.agg [(.o (.int .i64)),(.o (.int .i64)),(.o (.int .i64)),(.o (.int .i64))]),(.s (.o (.ptr 0 0 0 0)))],[⟨0,1,true,(some [[(.c 4 (nL tP))]])⟩],fun a H=>(⟨(toI (slT (cellsOf (slT a 0)) 0)),(toI (slT (cellsOf (slT a 0)) 1)),(toI (slT (cellsOf (slT a 0)) 2)),(toI (slT (cellsOf (slT a 0)) 3)),(rL tP (slT (rwT (elT H 0) 0) 0))⟩,())⟩ (fun x=>jb6 x (Wa7 x))
theorem Nc9:g8 prog G 114 cc4:=w7 (enc:=fun x=>⟨[(.agg [(i x.va0),(i x.va1),(i x.va2),(i x.pb4)]),(.ptr 0 0 0 0)],[⟨0,1,[[(eL tP x.d7)]],true,false,0⟩]⟩) (fun a H=>by kernel_rfl) (bd Ff6 Gc1) fun x=>q8 (Eq.trans (b:=xa2 (fun r=>(jb6 x r).run) x) (by kernel_rfl) (Xc1 (fun r=>(jb6 x r).run) (fun r=>r) x).symm)
structure ca3 where
 Q0:List Pt
 d7:List Pln
noncomputable def Na8:List (Nat×Sum):=[(114,cc4)]
theorem wb1:i4 prog G Na8:=⟨Nc9,trivial⟩
structure M6 where
 Q0:List Pt
 is7:Int
structure o7 where
 is8:Int
 d7:List Pln
noncomputable def sb2 (p:M6) (s:o7):St:=⟨((eL tX p.Q0)::((.fn 114 [(.ptr 0 0 0 0)])::(ra 5 ((i p.is7)::((i s.is8)::(ra 10 [])))))),[⟨0,1,[[(eL tP s.d7)]],true,false,0⟩]⟩
noncomputable def H6 {α:Type} (k:o7→α) (e:Nat→α) (z:α) (p:M6) (s:o7):α:=let t1:=(Wa7 ⟨(gL tX p.Q0 s.is8.toNat).px,(gL tX p.Q0 s.is8.toNat).py,(gL tX p.Q0 s.is8.toNat).pz,(gL tX p.Q0 s.is8.toNat).pw,(rt tP s.d7)⟩);(sl (decide (s.is8 < p.is7)) (sl (inB s.is8 (List.length p.Q0)) (sl ((cnE tP s.d7)&&true) (sl (Nat.beq t1.alt 1) (sl t1.bs0 (e 1) (k ⟨(W (s.is8+1)),(rt tP s.d7)⟩)) z) z) z) (e 2))
noncomputable def K6 (p:M6) (s:o7):Stp o7:=H6 .next .exit .fail p s
noncomputable def pa7:Lo M6 o7:=⟨En Na8,1,De6,[1,0,1,4,4],[0,1,7,8],.p,[⟨((.s (.c 4 (nL tX)))::((.fn 114 [(.o (.ptr 0 0 0 0))])::(ru2 5 ((.s (.o (.int .i64)))::((.s (.o (.int .i64)))::(ru2 10 [])))))),[⟨0,1,true,(some [[(.c 4 (nL tP))]])⟩],fun a H=>(⟨(rL tX (slT a 0)),(toI (slT a 7))⟩,⟨(toI (slT a 8)),(rL tP (slT (rwT (elT H 0) 0) 0))⟩)⟩],K6,[(none,fun p s=>⟨[(i s.is8)],[⟨0,1,[[(eL tP (rt tP s.d7))]],true,false,0⟩]⟩),(some 0,fun p s=>⟨((eL tX p.Q0)::((.fn 114 [(.ptr 0 0 0 0)])::(ra 5 ((i p.is7)::((i s.is8)::((b (decide (s.is8 < p.is7)))::(ra 9 []))))))),[⟨0,1,[[(eL tP s.d7)]],true,false,0⟩]⟩)],sb2⟩
theorem sb3:pa7.Ok:=Lo.ok [] (by kernel_rfl) .nil rfl (.cons (fun a H=>by kernel_rfl) .nil) fun p s=>(.of @H6 (fun F _ _ _ _ _=>by unfold H6;(repeat' apply j5 (f:=F))<;>rfl) (by kernel_rfl))
structure ca4 where
 alt:Nat
 is0:Int
 d7:List Pln
noncomputable def I7 {α:Type} (kk:ca4→α) (x:ca3):α:=let t1:=(lp (K6 (⟨(rt tX x.Q0),(↑(List.length x.Q0):Int)⟩:M6)) (⟨0,(rt tP x.d7)⟩:o7));(sl ((cnE tX x.Q0)&&((cnE tP x.d7)&&true)) (sl (Nat.beq t1.1 1) (kk ⟨1,t1.2.is8,(rt tP t1.2.d7)⟩) (sl (Nat.beq t1.1 2) (kk ⟨1,(-1),t1.2.d7⟩) (kk ⟨0,0,[]⟩))) (kk ⟨0,0,[]⟩))
noncomputable def va8 (x:ca3):ca4:=I7 (fun r=>r) x
noncomputable def ta9 (x:ca3) (r:ca4):DT (b7×List b8):=(.ite (Nat.beq r.alt 1) (.ret ((i r.is0),[⟨0,1,[[(eL tP r.d7)]],true,false,0⟩])) .fail)
theorem Ib6 {α β:Type} (F:α→β) (kk:ca4→α) (x:ca3):F (I7 kk x)=I7 (fun r=>F (kk r)) x:=by unfold I7;(repeat' apply j5 (f:=F))<;>rfl
noncomputable def Ra7:Sum:=za8 ⟨[(.s (.c 4 (nL tX))),(.fn 114 [(.o (.ptr 0 0 0 0))])],[⟨0,1,true,(some [[(.c 4 (nL tP))]])⟩],fun a H=>(⟨(rL tX (slT a 0)),(rL tP (slT (rwT (elT H 0) 0) 0))⟩,())⟩ (fun x=>ta9 x (va8 x))
theorem Db0:g8 prog G 185 Ra7:=w7 (enc:=fun x=>⟨[(eL tX x.Q0),(.fn 114 [(.ptr 0 0 0 0)])],[⟨0,1,[[(eL tP x.d7)]],true,false,0⟩]⟩) (fun a H=>by kernel_rfl) (bd yf4 wb1) fun x=>Ma1 (.s .p (.s (.s .p (.b (.u pa7.ls))) .p)) [pa7.pr] (by kernel_rfl) (.cons sb3 .nil) (Eq.trans (b:=I7 (fun r=>(ta9 x r).run) x) (by kernel_rfl) (Ib6 (fun r=>(ta9 x r).run) (fun r=>r) x).symm)
structure V0 where
 Q0:List Pt
 d7:List Pln
noncomputable def ob7:List (Nat×Sum):=[(185,Ra7)]
theorem jb7:i4 prog G ob7:=⟨Db0,trivial⟩
structure V1 where
 alt:Nat
 bs0:Bool
 d7:List Pln
noncomputable def C9 {α:Type} (kk:V1→α) (x:V0):α:=let t1:=(va8 ⟨(rt tX x.Q0),(rt tP x.d7)⟩);(sl ((cnE tX x.Q0)&&((cnE tP x.d7)&&true)) (sl (Nat.beq t1.alt 1) (kk ⟨1,(decide (t1.is0≥0)),t1.d7⟩) (kk ⟨0,false,[]⟩)) (kk ⟨0,false,[]⟩))
noncomputable def ma0 (x:V0):V1:=C9 (fun r=>r) x
noncomputable def ha7 (x:V0) (r:V1):DT (b7×List b8):=(.ite (Nat.beq r.alt 1) (.ret ((b r.bs0),[⟨0,1,[[(eL tP r.d7)]],true,false,0⟩])) .fail)
theorem sb4 {α β:Type} (F:α→β) (kk:V1→α) (x:V0):F (C9 kk x)=C9 (fun r=>F (kk r)) x:=by unfold C9;(repeat' apply j5 (f:=F))<;>rfl
noncomputable def Ia1:Sum:=za8 ⟨[(.s (.c 4 (nL tX))),(.fn 114 [(.o (.ptr 0 0 0 0))])],[⟨0,1,true,(some [[(.c 4 (nL tP))]])⟩],fun a H=>(⟨(rL tX (slT a 0)),(rL tP (slT (rwT (elT H 0) 0) 0))⟩,())⟩ (fun x=>ha7 x (ma0 x))
theorem ob8:g8 prog G 113 Ia1:=w7 (enc:=fun x=>⟨[(eL tX x.Q0),(.fn 114 [(.ptr 0 0 0 0)])],[⟨0,1,[[(eL tP x.d7)]],true,false,0⟩]⟩) (fun a H=>by kernel_rfl) (bd yf2 jb7) fun x=>q8 (Eq.trans (b:=C9 (fun r=>(ha7 x r).run) x) (by kernel_rfl) (sb4 (fun r=>(ha7 x r).run) (fun r=>r) x).symm)
noncomputable def kd9:List (Nat×Sum):=[(20,Fa0),(87,Qa3),(18,qa8),(113,Ia1)]
theorem Xc2:i4 prog G kd9:=⟨Fa6,Ua0,ta2,ob8,trivial⟩
noncomputable def Ua6 (x:List Pln) (y:List Pln):Option (b7×List b8):=let t1:=(ga9 (rt tP x));let t2:=(oa0 [(rt tP y)]);let t3:=(T0 (rt tP x));let t4:=(ma0 ⟨(rt tX t3),(rt tP y)⟩);(sl (okE tP x) (sl (ha0 (rt tP x)) (sl t1 (sl ((okE tP y)&&true) (sl (oa1 [(rt tP y)]) (sl t2 (sl (okE tP x) (sl (T1 (rt tP x)) (sl ((cnE tX t3)&&((cnE tP y)&&true)) (sl (Nat.beq t4.alt 1) (some ((b (!t4.bs0)),[])) none) none) none) none) (some ((b false),[]))) none) none) (some ((b false),[]))) none) none)
noncomputable def Ua7 (x:List Pln) (y:List Pln):Bool:=aa3 (one r1B) (Ua6 x y)
noncomputable def Ua8 (x:List Pln) (y:List Pln):Bool:=okO (one r1B) (Ua6 x y)
noncomputable def uc7:Sum:=Sa3 (Fa1 tP) (Fa1 tP) (fun x y=>.guard (Ua8 x y) (.ret ((one r1B).enc (Ua7 x y),[])))
theorem ld0:g8 prog G 33 uc7:=rc6 (bd b33 Xc2) (one r1B) (o:=Ua6) fun x y=>q8 (by kernel_rfl)
noncomputable def Vd1:List (Nat×Sum):=[]
theorem Jd0:i4 prog G Vd1:=trivial
structure Zb2 where
 d9:Int
 X2:Int
 X3:Int
 X4:Int
 X5:Int
 X6:Int
noncomputable def Db1 {α:Type} (kk:Zb2→α) (x:V3) (y:V3):α:=(kk ⟨y.x,(W (0 - x.x)),y.y,(W (0 - x.y)),y.z,(W (0 - x.z))⟩)
noncomputable def ld1 (x:V3) (y:V3):Zb2:=Db1 (fun r=>r) x y
noncomputable def lc3 (r:Zb2):DT (b7×List b8):=.ret ((.sl 0 0 6 0),[⟨50,4,[[(i 1),(i 0),(i 0),(i r.d9)],[(i (-1)),(i 0),(i 0),(i r.X2)],[(i 0),(i 1),(i 0),(i r.X3)],[(i 0),(i (-1)),(i 0),(i r.X4)],[(i 0),(i 0),(i 1),(i r.X5)],[(i 0),(i 0),(i (-1)),(i r.X6)]],true,false,0⟩])
theorem ee9 {α β:Type} (F:α→β) (kk:Zb2→α) (x:V3) (y:V3):F (Db1 kk x y)=Db1 (fun r=>F (kk r)) x y:=by unfold Db1;(repeat' apply j5 (f:=F))<;>rfl
noncomputable def ld2:Sum:=Sa3 (ua9 tV) (ua9 tV) (fun x y=>lc3 (ld1 x y))
theorem Vd2:g8 prog G 111 ld2:=bb3 (bd Ff5 Jd0) fun x y=>q8 (Eq.trans (b:=Db1 (fun r=>(lc3 r).run) x y) (by kernel_rfl) (ee9 (fun r=>(lc3 r).run) (fun r=>r) x y).symm)
noncomputable def td8:List (Nat×Sum):=[(111,ld2)]
theorem ld3:i4 prog G td8:=⟨Vd2,trivial⟩
structure wb2 where
 d9:Int
 X2:Int
 X3:Int
 X4:Int
 X5:Int
 X6:Int
noncomputable def eb0 {α:Type} (kk:wb2→α)  : α:=let t1:=(ld1 (⟨0,0,0⟩:V3) (⟨1,1,1⟩:V3));(kk ⟨t1.d9,t1.X2,t1.X3,t1.X4,t1.X5,t1.X6⟩)
noncomputable def Zb3  : wb2:=eb0 (fun r=>r)
noncomputable def Pb4 (r:wb2):DT (b7×List b8):=.ret ((.sl 0 0 6 0),[⟨50,4,[[(i 1),(i 0),(i 0),(i r.d9)],[(i (-1)),(i 0),(i 0),(i r.X2)],[(i 0),(i 1),(i 0),(i r.X3)],[(i 0),(i (-1)),(i 0),(i r.X4)],[(i 0),(i 0),(i 1),(i r.X5)],[(i 0),(i 0),(i (-1)),(i r.X6)]],true,false,0⟩])
theorem Jd1 {α β:Type} (F:α→β) (kk:wb2→α)  : F (eb0 kk )=eb0 (fun r=>F (kk r))  :=by unfold eb0;(repeat' apply j5 (f:=F))<;>rfl
noncomputable def Gc2:Sum:=Pd2  (Pb4 (Zb3 ))
theorem td9:g8 prog G 81 Gc2:=ie9 (bd b81 ld3) (q8 (Eq.trans (b:=eb0 (fun r=>(Pb4 r).run) ) (by kernel_rfl) (Jd1 (fun r=>(Pb4 r).run) (fun r=>r) ).symm))
end Go.Ev.Ce
end
namespace Go.Ev.Ce
open Go Go.Ev Go.Ev.L Go.Proofs
theorem lc4 (v:V3):Ga0 v=inV v∧Ga1 v=true:=by
 have h3:[v.x,v.y,v.z].length≤1000000000:=by simp
 have:Cb7 v=some (b (inV v),[]):=by
  unfold Cb7 inV
  simp only[Mc6 24 _ (by omega) h3,Mc7 24 _ (by omega) h3,w6]
  simp only[List.all_cons,List.all_nil,Bool.and_true]
 unfold Ga0 Ga1
 rw[this]
 exact⟨rfl,rfl⟩
noncomputable def has (c:List Pln) (v:V3):Bool:=(chk c==0)&&(inV v&&inn c ⟨v.x,v.y,v.z,1⟩)
theorem He0 {c:List Pln} (hc:c.length≤1000000000) (v:V3):Cb9 c v=some (b (has c v),[]):=by
 unfold Cb9 has
 simp only[l6,sa1,Ec9 c hc,Fc0 c hc,(lc4 v).1,(lc4 v).2,id8 c _ hc,id9 c _ hc]
 cases chk c==0 with
 | false=>rfl
 | true=>cases inV v<;>rfl
theorem gf1 {c:List Pln} (hc:c.length≤1000000000) (v:V3):jb4 c v=has c v:=by unfold jb4;rw[He0 hc];rfl
theorem gf2 {c:List Pln} (hc:c.length≤1000000000) (v:V3):jb5 c v=true:=by unfold jb5;rw[He0 hc];rfl
theorem He1 {a c:List Pln} (ha:(chk a==0)=true) (hc:(chk c==0)=true):Bds (a++c++ws)∧(a++c++ws).length≤200:=by
 rw[beq_iff_eq,jd3] at ha hc
 refine⟨fun p hp=>?_,by rw[List.length_append,List.length_append,show ws.length=6 from rfl];omega⟩
 rcases List.mem_append.1 hp with hp | hp
 ·rcases List.mem_append.1 hp with hp | hp
  ·exact Yb3 (ha.2 p hp)
  ·exact Yb3 (hc.2 p hp)
 ·exact ff0 p hp
noncomputable def apart (a c:List Pln):Bool:=!((chk a==0)&&(chk c==0))||!ee4 (a++c++ws)
theorem Vd3 {a c:List Pln} (ha:a.length≤100000000) (hc:c.length≤100000000):db7 a c=some (b (apart a c),[]):=by
 have hn:[a,c].length≤1000000000:=by simp
 have hl:∀ x∈[a,c],x.length≤1000000000:=by
  intro x hx
  simp only[List.mem_cons,List.not_mem_nil,or_false] at hx
  rcases hx with rfl | rfl<;>omega
 have hf:[a,c].flatten=a++c:=by simp
 have hfl:[a,c].flatten.length≤1000000000:=by rw[hf,List.length_append];omega
 unfold db7 apart
 simp only[l6,sa1,Td7 _ hn hl,Td8 _ hn hl,yf8 _ hn hfl,yf9 _ hn hfl,hf,List.all_cons,List.all_nil,Bool.and_true]
 cases h1:chk a==0 with
 | false=>rfl
 | true =>
  cases h2:chk c==0 with
  | false=>rfl
  | true =>
   obtain⟨q1,q2⟩:=He1 h1 h2
   rw[Fe6 _ q1 q2,Fe7 _ q1 q2]
   rfl
theorem We5 {a c:List Pln} (ha:a.length≤100000000) (hc:c.length≤100000000):db8 a c=apart a c:=by unfold db8;rw[Vd3 ha hc];rfl
theorem We6 {a c:List Pln} (ha:a.length≤100000000) (hc:c.length≤100000000):db9 a c=true:=by unfold db9;rw[Vd3 ha hc];rfl
noncomputable def ue0 (a c:List Pln):Bool:=ful a&&((chk c==0)&&(pts a).all (inn c))
theorem fe0 (x:Pt) (c:List Pln) (hc:c.length≤1000000000):Wa7 ⟨x.px,x.py,x.pz,x.pw,c⟩=⟨1,!inn c x⟩:=by
 unfold Wa7 xa2
 simp only[l6,sa1,w6]
 show sl (fa6 c x) (Ia0.mk 1 (!fa5 c x)) _=_
 rw[id8 c x hc,id9 c x hc]
 rfl
theorem Ad9 {a c:List Pln} (ha:a.length≤1000000000) (hc:c.length≤1000000000):Ua6 a c=some (b (ue0 a c),[]):=by
 have hX:=Fc3 a
 have h:=Fa2 (step:=K6 ⟨pts a,((pts a).length:Int)⟩) (mk:=fun j=>(⟨(j:Int),c⟩:o7)) (c:=fun x=>!inn c x) (u:=1) (fin:=2) tX (pts a) (by omega)
  (fun j hj=>by
   simp only[K6,H6,Int.toNat_natCast,l6,j9,fe0 _ _ hc,q7 hj (show (pts a).length≤4611686018427387904 by omega)]
   rw[btD (m0 hj),bt (f8 hj)]
   rfl)
  (by simp only[K6,H6];rw[bfD (A7 (Nat.lt_irrefl _))]) 0 (Nat.zero_le _)
 rw[List.drop_zero] at h
 have e:((pts a).any fun x=>!inn c x)=!(pts a).all (inn c):=by rw[List.not_all_eq_any_not]
 unfold Ua6 ma0 C9 va8 I7 ue0
 simp only[l6,j9,sa1,kc7 ha,kc8 ha,Ec9 c hc,Fc0 c hc,ob4 ha,ob5 ha]
 rw[show (⟨0,c⟩:o7)=⟨((0:Nat):Int),c⟩ from rfl,h,e]
 cases ful a with
 | false=>rfl
 | true =>
  cases chk c==0 with
  | false=>rfl
  | true =>
   cases (pts a).all (inn c) with
   | true=>rfl
   | false =>
    simp only[Bool.not_false,if_true,Nat.zero_add]
    show some (b (!(decide ((((pts a).findIdx fun x=>!inn c x:Nat):Int)≥0))),[])=_
    rw[show decide ((((pts a).findIdx fun x=>!inn c x:Nat):Int)≥0)=true from decide_eq_true (by omega)]
    rfl
theorem He2 {a c:List Pln} (ha:a.length≤1000000000) (hc:c.length≤1000000000):Ua7 a c=ue0 a c:=by unfold Ua7;rw[Ad9 ha hc];rfl
theorem He3 {a c:List Pln} (ha:a.length≤1000000000) (hc:c.length≤1000000000):Ua8 a c=true:=by unfold Ua8;rw[Ad9 ha hc];rfl
end Go.Ev.Ce
namespace Go.Ev.L
open Go Go.Ev Go.Sort Go.Proofs
section
variable {α:Type} [Inhabited α] {P:Program} {G:Nat→List Value} {g:FuncId} {S:Sum} {t:Ty α} {enc:α→List Value} {cf:α→α→Int}
theorem me0 (hc : g8 P G g S) (hS : ∀ x y, (S [.agg (t.row x), .agg (t.row y)] []).run = some (i (cf x y), [])) (hG : ∀ n, G n = []) (he : ∀ x, t.row x = (enc x).map .v) (k blk off size : Nat) (w : World) :
  CmpLays P g #[] enc k cf blk off size w:=by
 intro m os dk _ x y
 generalize sortWorldK enc k w blk off m dk os=w0
 have hrow:∀ (z:α),ra4 (fun _=>⟨0,0,0⟩) [] (fun _ _=>False) w0 (.agg (t.row z)) (.agg (enc z).toArray):=fun z=>by
  refine .agg _ _ (by rw[he];simp) fun i u u' hu hu'=>?_
  rw[he,List.getElem?_map] at hu
  have hu':(enc z)[i]?=some u':=by simpa using hu'
  rw[hu'] at hu
  injection hu with hu
  subst hu
  exact .v _
 obtain⟨_,h⟩:=hc _ _ _ _ (hS x y) (fun k=>w0.heap.size≤k) (fun _=>⟨0,0,0⟩) (fun _ _=>False) w0 [.agg (enc x).toArray,.agg (enc y).toArray]
  ⟨fun id b hb=>by simp at hb,fun id id' b b' hb=>by simp at hb,fun b o hf=>hf.elim,fun k hk=>hk⟩ rfl
  (fun i u u' hu hu'=>by
   match i,hu,hu' with
   | 0,hu,hu'=>cases hu;cases hu';exact .val (hrow x)
   | 1,hu,hu'=>cases hu;cases hu';exact .val (hrow y))
  (fun n c v hv=>by rw[hG] at hv;simp at hv)
 refine h.mono fun e w' ⟨r',h1,ρ',F',h2,h3,h4⟩=>?_
 have h5:=ma5 h4
 subst h5
 refine⟨h1,w'.drawn - w0.drawn,w'.heap.extract w0.heap.size w'.heap.size,?_⟩
 have hd:=h2.ext.drawn
 have hs:=h2.ext.size
 have hheap:w'.heap=w0.heap++w'.heap.extract w0.heap.size w'.heap.size:=by
  apply Array.ext_getElem?
  intro j
  rcases Nat.lt_or_ge j w0.heap.size with hj | hj
  ·rw[Array.getElem?_append_left hj,h2.ext.block j hj (by omega)]
  ·rw[Array.getElem?_append_right hj,Array.getElem?_extract]
   have e:w0.heap.size+(j - w0.heap.size)=j:=by omega
   rw[e]
   split
   ·rfl
   ·rw[Array.getElem?_eq_none (by omega)]
 obtain⟨hp,tp,dr,os',out⟩:=w'
 have e1:=h2.ext.os;have e2:=h2.ext.tape;have e3:=h2.ext.output
 simp only at e1 e2 e3 hd hheap
 subst e1 e2 e3
 unfold grow World.drewN
 simp only
 congr 1
 omega
noncomputable def me1 (t:Ty α) (g:Nat) (et:Nat) (srt:List α→List α):Sum:=fun args blks=>match args,blks with
 | [.sl 0 0 n 0,.fn g' []],[⟨et',es',el,true,false,0⟩] =>
  Bool.rec (motive:=fun _=>DT (b7×List b8)) .fail (.guard (Bool.and (Nat.ble n room) (Bool.and (Nat.ble n (len el)) (okS t el 0 n))) (.ret (.v (.tuple #[]),[⟨et',es',app (bL t (srt (slR t el 0 n))) (g9 el n),true,false,0⟩])))
   (Bool.and (Nat.beq g' g) (Bool.and (Nat.beq et' et) (Nat.beq es' t.es)))
 | _,_=>.fail
theorem Gc3 (l:List α) (j:Nat) (h:j < l.length):l.toArray[j]! = l[j]:=by
 rw[getElem!_pos l.toArray j (by simpa using h)]
 simp
theorem me2 {f : FuncId} {et : Nat} {srt : List α → List α} (hcall : zb6 P f) (hes : 0 < t.es) (he : ∀ x, t.row x = (enc x).map .v) (hx : ∀ r, t.ok r = true → r = t.row (t.rd r)) (h1 : ∀ x, ∀ v ∈ enc x, v.oneCell' = true)
  (hlen:∀ l,(srt l).length=l.length) (hcl:∀ blk off size w,CmpLays P g #[] enc t.es cf blk off size w)
  (hcon:∀ (blk cap:Nat) (d:Array α) (w:World),(∀ off size,CmpLays P g #[] enc t.es cf blk off size w)→HoldsK enc t.es w blk 0 d→blk < w.heap.size→d.size < 4611686018427387904 →
   Calls P f #[.slice (some ⟨blk,0,none⟩) d.size cap,.func (.func g) #[] #[]] w fun e w'=>e=.returned (.tuple #[])∧∃ n os,w'=sortWorldK enc t.es w blk 0 n (srt d.toList).toArray os) :
  g8 P G f (me1 t g et srt):=by
 intro args blks r out hr W ρ F w args' hH hl hargs hG
 refine⟨hcall,?_⟩
 unfold me1 at hr
 split at hr
 case h_2=>cases hr
 rename_i n g' et' es' el
 cases hb0:Bool.and (Nat.beq g' g) (Bool.and (Nat.beq et' et) (Nat.beq es' t.es)) with
 | false=>rw[hb0] at hr;cases hr
 | true =>
 rw[hb0] at hr
 rw[Bool.and_eq_true,Bool.and_eq_true] at hb0
 have q1:=Nat.eq_of_beq_eq_true hb0.1;have q2:=Nat.eq_of_beq_eq_true hb0.2.1;have q3:=Nat.eq_of_beq_eq_true hb0.2.2
 subst q1 q2 q3
 obtain⟨hg0,hr⟩:=DT.run_guard_some hr
 rw[Bool.and_eq_true,Bool.and_eq_true] at hg0
 have hroom:n≤room:=Nat.le_of_ble_eq_true hg0.1
 have hn:=Nat.le_of_ble_eq_true hg0.2.1
 rw[m9] at hn
 have hok:=hg0.2.2
 injection hr with hr;injection hr with p1 p2;subst p1 p2
 match args',hl with
 | [v0,v1],_ =>
 obtain⟨a,cap,b,rfl,hb,hd,_,hncap,hspot,hcap,hq⟩:=Sa2 (hargs 0 _ _ rfl rfl)
 obtain⟨vs1,rfl,hvs1,_⟩:=Vb3 (hargs 1 _ _ rfl rfl)
 have hvs1:vs1=#[]:=Array.eq_empty_of_size_eq_zero (by simpa using hvs1.symm)
 subst hvs1
 have hb:b=⟨et',t.es,el,true,false,0⟩:=by simpa using hb.symm
 subst hb
 obtain⟨ha,hsz,hne⟩:=hq rfl
 have ha:a=⟨(ρ 0).blk,(ρ 0).off+0*t.es,none⟩:=ha.resolve_left fun h=>by omega
 obtain⟨cc,tt,fr,hB⟩:=hH.blk 0 _ rfl rfl
 obtain⟨hfr,hW,hoff,hsize,hnF,het⟩:=hB.own rfl
 subst hfr
 rw[hoff,Nat.zero_mul,Nat.add_zero] at ha
 subst ha
 generalize hbk:(ρ 0).blk=blk at *
 -- the rows as data
 have hrow:∀ j,j < n→j6 el j=(enc (gL t (slR t el 0 n) j)).map .v:=fun j hj=>by
  have h2:t.ok (j6 el (0+j))=true:=List.all_eq_true.1 hok j (by simpa using hj)
  rw[Nat.zero_add] at h2
  rw[← he,slR,je2 t _ hj,Nat.zero_add]
  exact hx _ h2
 have hld:(slR t el 0 n).length=n:=je1 ..
 have hk:∀ x,(enc x).length=t.es:=fun x=>by have:=t.h0 x;rw[m9,he] at this;simpa using this
 have hlt:blk < w.heap.size:=by
  have:=hB.obj
  rcases Nat.lt_or_ge blk w.heap.size with h | h
  ·exact h
  ·rw[hbk,Array.getElem?_eq_none h] at this;cases this
 have hobj:w.heap[blk]?=some (.cells cc tt (0,0)):=by rw[← hbk];exact hB.obj
 have hgd:∀ (l:List α) (j:Nat) (h:j < l.length),gL t l j=l[j]:=fun l j h=>by simp[gL,List.getD_eq_getElem?_getD,List.getElem?_eq_getElem h]
 have hdm:∀ q,q < n*t.es→q / t.es < n∧q % t.es < t.es∧(q / t.es)*t.es+q % t.es=q:=fun q hq=>⟨Nat.div_lt_of_lt_mul (by rw[Nat.mul_comm];exact hq),Nat.mod_lt _ hes,Nat.div_add_mod' q t.es⟩
 have hrowAt:∀ j,j < el.length→el[j]?=some (j6 el j):=fun j hj=>by
  unfold j6;rw[D1,List.getElem?_eq_getElem hj]
 have hH0:HoldsK enc t.es w blk 0 (slR t el 0 n).toArray:=by
  intro q hq
  have hq:q < n*t.es:=by rw[size_flatK] at hq;simpa [hld] using hq
  obtain⟨e1,e2,e3⟩:=hdm q hq
  rw[get_flatK _ _ _ _ (by simpa [hld] using hq),Gc3 _ _ (by rw[hld];exact e1),← hgd _ _ (by rw[hld];exact e1)]
  have hcx:(j6 el (q / t.es))[q % t.es]?=some (.v ((enc (gL t (slR t el 0 n) (q / t.es)))[q % t.es]!)):=by
   rw[hrow _ e1,List.getElem?_map,List.getElem?_eq_getElem (by rw[hk];exact e2),getElem!_pos _ _ (by rw[hk];exact e2)]
   rfl
  obtain⟨x',h5,h6⟩:=hB.cell (q / t.es) _ (q % t.es) _ (hrowAt _ (by omega)) hcx
  have h6:x'=(enc (gL t (slR t el 0 n) (q / t.es)))[q % t.es]! :=by cases h6;rfl
  subst h6
  rw[hoff] at h5
  simp only[e3,Nat.zero_add] at h5
  constructor
  ·simp only[World.cell?,hobj,Nat.zero_add]
   simpa using h5
  ·simp[World.frozen?,hobj]
 have hds:(slR t el 0 n).toArray.size=n:=by simpa using hld
 have hmax:n < 4611686018427387904:=by unfold room at hroom;omega
 have hcalls:=hcon blk cap (slR t el 0 n).toArray w (fun off size=>hcl blk off size w) hH0 hlt (by rw[hds];exact hmax)
 rw[hds] at hcalls
 refine hcalls.mono fun e w' ⟨h5,m,os,h6⟩=>⟨_,h5,ρ,F,?_⟩
 generalize hsd:srt (slR t el 0 n)=sd at *
 have hsl:sd.length=n:=by rw[← hsd,hlen,hld]
 have h6:w'=grow (mapBlock (Sort.ahead w m) blk (putCells id 0 (flatK enc t.es sd.toArray))) os:=h6
 have hw'size:w'.heap.size=w.heap.size+os.size:=by rw[h6];simp[mapBlock]
 have hold:∀ k,k < w.heap.size→k≠blk→w'.heap[k]?=w.heap[k]?:=fun k h7 h8=>by
  rw[h6]
  simp only[grow,mapBlock]
  rw[Array.getElem?_append_left (by simpa using h7),Array.getElem?_modify]
  simp[Ne.symm h8]
 have hnew:w'.heap[blk]?=some (.cells (putCells id 0 (flatK enc t.es sd.toArray) cc) tt (0,0)):=by
  rw[h6]
  simp only[grow,mapBlock]
  rw[Array.getElem?_append_left (by simpa using hlt),Array.getElem?_modify]
  simp[hobj,onCells]
 have hcells:∀ b o,F b o→w'.cell? ⟨b,o,none⟩=w.cell? ⟨b,o,none⟩:=fun b o hf=>by
  have h7:b≠blk:=fun h8=>hnF o (h8 ▸ hf)
  have:=Vb0 (hH.frz b o hf)
  simp only[World.cell?,hold b this h7]
 have hpc:∀ q,q < cc.size→(putCells id 0 (flatK enc t.es sd.toArray) cc)[q]?=if q < n*t.es then some ((enc sd.toArray[q / t.es]!)[q % t.es]!) else cc[q]?:=fun q hq=>by
  simp only[putCells,Array.getElem?_mapIdx,Array.getElem?_eq_getElem hq,Option.map_some,size_flatK,Nat.zero_le,true_and,Nat.zero_add,Nat.sub_zero,id]
  have:sd.toArray.size=n:=by simpa using hsl
  rw[this]
  split
  ·next h7=>rw[get_flatK _ _ _ _ (by rw[this];exact h7)]
  ·rfl
 have hel:(app (bL t sd) (g9 el n)).length=el.length:=by
  rw[J0,List.length_append,← m9 (bL t sd),na4,hsl,L7,List.length_drop]
  omega
 have hnrow:∀ (j:Nat) r,(app (bL t sd) (g9 el n))[j]?=some r→(j < n∧r=t.row (gL t sd j))∨(n≤j∧el[j]?=some r):=fun j r hr=>by
  have hlb:(bL t sd).length=n:=by rw[← m9,na4,hsl]
  rw[J0] at hr
  rcases Nat.lt_or_ge j n with h7 | h7
  ·rw[List.getElem?_append_left (by omega)] at hr
   left
   refine⟨h7,?_⟩
   unfold bL at hr
   rw[o0,List.getElem?_map,List.getElem?_eq_getElem (by omega)] at hr
   injection hr with hr
   rw[← hr,hgd sd j (by omega)]
  ·rw[List.getElem?_append_right (by omega),hlb,L7,List.getElem?_drop] at hr
   right
   exact⟨h7,by rw[← hr];congr 1;omega⟩
 have hcs:el.length*t.es≤cc.size:=by have:=hB.len;rw[hsize] at this;exact this
 refine⟨⟨⟨?_,?_,?_,by omega,fun k h7 h8=>hold k h7 fun h9=>h8 (h9 ▸ hW),hcells,?_⟩,fun id b hb=>?_,fun _ _ h=>h,fun _ _ h=>.inl h,fun id b' hb' hn'=>?_⟩,⟨fun id b hb hd'=>?_,fun id id' b b' hb hb' h7 h8 h9 h10=>?_,fun b o hf=>by rw[hcells b o hf];exact hH.frz b o hf,fun k hk'=>hH.new k (by omega)⟩,.ofv _⟩
 ·rw[h6];rfl
 ·rw[h6];rfl
 ·rw[h6];rfl
 ·rw[h6];exact Nat.le_add_right _ _
 ·match id,hb with
  | 0,hb =>
   cases hb
   exact⟨_,rfl,rfl,Nat.le_refl _,fun _=>⟨rfl,rfl,by simp only[hel];exact Nat.le_refl _⟩⟩
 ·match id,hb' with
  | 0,hb'=>cases hb';exact absurd rfl (hn' ⟨et',t.es,el,true,false,0⟩ rfl)
 ·match id,hb with
  | 0,hb =>
   cases hb
   refine⟨_,tt,(0,0),by rw[hbk];exact hnew,?_,?_,?_,?_,fun _=>⟨rfl,by rw[hbk];exact hW,hoff,?_,by rw[hbk];exact hnF,het⟩,fun h=>by cases h⟩
   ·rw[hoff,hsize];simp[putCells]
   ·simp only[hel];exact hB.len
   ·intro j r hr
    rcases hnrow j r hr with⟨_,h8⟩ | ⟨_,h8⟩
    ·rw[h8,← m9];exact t.h0 _
    ·exact hB.rows j r h8
   ·intro j r c x hr hc
    rw[hoff,Nat.zero_add]
    rcases hnrow j r hr with⟨h7,h8⟩ | ⟨h7,h8⟩
    ·subst h8
     have hclt:c < t.es:=by
      have:=(List.getElem?_eq_some_iff.1 hc).1
      rw[← m9,t.h0] at this
      exact this
     have hq:j*t.es+c < n*t.es:=by
      have:=Nat.mul_le_mul_right t.es (show j+1≤n from h7)
      rw[Nat.add_mul,Nat.one_mul] at this
      omega
     have hqn:n*t.es≤el.length*t.es:=Nat.mul_le_mul_right _ hn
     have e1:(j*t.es+c) / t.es=j:=by rw[Nat.mul_comm,Nat.mul_add_div hes,Nat.div_eq_of_lt hclt,Nat.add_zero]
     have e2:(j*t.es+c) % t.es=c:=by rw[Nat.mul_comm,Nat.mul_add_mod,Nat.mod_eq_of_lt hclt]
     rw[he,List.getElem?_map,List.getElem?_eq_getElem (by rw[hk];exact hclt)] at hc
     injection hc with hc
     subst hc
     refine⟨(enc (gL t sd j))[c]'(by rw[hk];exact hclt),?_,.v _ (h1 _ _ (List.getElem_mem _))⟩
     rw[hpc _ (Nat.lt_of_lt_of_le hq (Nat.le_trans hqn hcs)),if_pos hq,e1,e2,Gc3 _ _ (by omega),hgd sd j (by omega),getElem!_pos _ _ (by rw[hk];exact hclt)]
    ·obtain⟨x',h9,h10⟩:=hB.cell j r c x h8 hc
     rw[hoff,Nat.zero_add] at h9
     have hq:¬ j*t.es+c < n*t.es:=by
      have:=Nat.mul_le_mul_right t.es h7
      omega
     have hlt':j*t.es+c < cc.size:=(Array.getElem?_eq_some_iff.1 h9).1
     exact⟨x',by rw[hpc _ hlt',if_neg hq];exact h9,h10.adv (fun _ _ h=>h) hcells⟩
   ·rw[hsize];simp[putCells]
 ·match id,hb,id',hb' with
  | 0,hb,0,hb'=>exact absurd rfl h10
end
end Go.Ev.L
namespace Go.Proofs
open Go.Shelf
set_option maxRecDepth 100000 in
def Ce.sortLay_ren:Go.Shelf.Ren:=⟨fun | 6=>103 | 15=>178 | 14=>177 | 28=>230 | 29=>231 | 20=>222 | 21=>223 | 22=>224 | 23=>225 | 24=>226 | 25=>227 | 26=>228 | 27=>229 | 46=>240 | 47=>241 | 48=>242 | 49=>243 | 50=>244 | 57=>254 | n=>n,fun | 22=>25 | 24=>50 | 25=>119 | 3=>3 | 39=>185 | 0=>0 | 53=>213 | 55=>215 | 4=>4 | 46=>207 | 45=>206 | 50=>72 | 5=>5 | 9=>9 | 66=>219 | 70=>223 | 76=>231 | 77=>232 | n=>n,fun | n=>n⟩
set_option maxRecDepth 100000 in
theorem Ce.sortLay:Go.Proofs.SlLaysF0.n6 Tryz.prog Ce.sortLay_ren:={
 mixed:=by kernel_rfl
 f6:=⟨Tryz.f103.name,by decide,Tryz.func103.trans (congrArg some (by kernel_rfl))⟩
 f14:=⟨Tryz.f177.name,by decide,Tryz.func177.trans (congrArg some (by kernel_rfl))⟩
 f15:=Tryz.func178.trans (congrArg some (by kernel_rfl))
 f20:=⟨Tryz.f222.name,by decide,Tryz.func222.trans (congrArg some (by kernel_rfl))⟩
 f21:=⟨Tryz.f223.name,by decide,Tryz.func223.trans (congrArg some (by kernel_rfl))⟩
 f22:=⟨Tryz.f224.name,by decide,Tryz.func224.trans (congrArg some (by kernel_rfl))⟩
 f23:=⟨Tryz.f225.name,by decide,Tryz.func225.trans (congrArg some (by kernel_rfl))⟩
 f24:=⟨Tryz.f226.name,by decide,Tryz.func226.trans (congrArg some (by kernel_rfl))⟩
 f25:=⟨Tryz.f227.name,by decide,Tryz.func227.trans (congrArg some (by kernel_rfl))⟩
 f26:=⟨Tryz.f228.name,by decide,Tryz.func228.trans (congrArg some (by kernel_rfl))⟩
 f27:=⟨Tryz.f229.name,by decide,Tryz.func229.trans (congrArg some (by kernel_rfl))⟩
 f28:=Tryz.func230.trans (congrArg some (by kernel_rfl))
 f29:=Tryz.func231.trans (congrArg some (by kernel_rfl))
 f46:=⟨Tryz.f240.name,by decide,Tryz.func240.trans (congrArg some (by kernel_rfl))⟩
 f47:=Tryz.func241.trans (congrArg some (by kernel_rfl))
 f48:=Tryz.func242.trans (congrArg some (by kernel_rfl))
 f49:=⟨Tryz.f243.name,by decide,Tryz.func243.trans (congrArg some (by kernel_rfl))⟩
 f50:=⟨Tryz.f244.name,by decide,Tryz.func244.trans (congrArg some (by kernel_rfl))⟩
 f57:=⟨Tryz.f254.name,by decide,Tryz.func254.trans (congrArg some (by kernel_rfl))⟩
 t0:=Tryz.underlying0
 a0:=Tryz.isAgg0
 z0:=Tryz.sizeOf0
 v0:=Tryz.zeroValue0
 t3:=Tryz.underlying3
 a3:=Tryz.isAgg3
 z3:=Tryz.sizeOf3
 v3:=Tryz.zeroValue3
 t4:=Tryz.underlying4
 a4:=Tryz.isAgg4
 z4:=Tryz.sizeOf4
 v4:=Tryz.zeroValue4
 t5:=Tryz.underlying5
 a5:=Tryz.isAgg5
 z5:=Tryz.sizeOf5
 v5:=Tryz.zeroValue5
 t9:=Tryz.underlying9
 a9:=Tryz.isAgg9
 z9:=Tryz.sizeOf9
 v9:=Tryz.zeroValue9
 t22:=Tryz.underlying25
 a22:=Tryz.isAgg25
 z22:=Tryz.sizeOf25
 v22:=Tryz.zeroValue25
 t25:=Tryz.underlying119
 a25:=Tryz.isAgg119
 z25:=Tryz.sizeOf119
 v25:=Tryz.zeroValue119
 t39:=Tryz.underlying185
 a39:=Tryz.isAgg185
 z39:=Tryz.sizeOf185
 v39:=Tryz.zeroValue185
 t45:=Tryz.underlying206
 a45:=Tryz.isAgg206
 z45:=Tryz.sizeOf206
 v45:=Tryz.zeroValue206
 t46:=Tryz.underlying207
 a46:=Tryz.isAgg207
 z46:=Tryz.sizeOf207
 v46:=Tryz.zeroValue207
 t50:=Tryz.underlying72
 a50:=Tryz.isAgg72
 z50:=Tryz.sizeOf72
 v50:=Tryz.zeroValue72
 t53:=Tryz.underlying213
 a53:=Tryz.isAgg213
 z53:=Tryz.sizeOf213
 v53:=Tryz.zeroValue213
 t55:=Tryz.underlying215
 a55:=Tryz.isAgg215
 z55:=Tryz.sizeOf215
 v55:=Tryz.zeroValue215
 t66:=Tryz.underlying219
 a66:=Tryz.isAgg219
 z66:=Tryz.sizeOf219
 v66:=Tryz.zeroValue219
 t70:=Tryz.underlying223
 a70:=Tryz.isAgg223
 z70:=Tryz.sizeOf223
 v70:=Tryz.zeroValue223
 t76:=Tryz.underlying231
 a76:=Tryz.isAgg231
 z76:=Tryz.sizeOf231
 v76:=Tryz.zeroValue231
 t77:=Tryz.underlying232
 a77:=Tryz.isAgg232
 z77:=Tryz.sizeOf232
 v77:=Tryz.zeroValue232 }
end Go.Proofs
namespace Go.Ev.Ce
open Go Go.Ev Go.Ev.L Go.Proofs Go.Sort
def Pb5 (x y:Int):Int:=if x < y then -1 else if x > y then 1 else 0
def Db2 (x y:Pln):Int :=
 if Pb5 x.n.x y.n.x=0 then if Pb5 x.n.y y.n.y=0 then if Pb5 x.n.z y.n.z=0 then Pb5 x.b y.b else Pb5 x.n.z y.n.z else Pb5 x.n.y y.n.y else Pb5 x.n.x y.n.x
theorem Zb4 (x y:Int):Pb5 x y < 0↔x < y:=by unfold Pb5;split<;>(try split)<;>omega
theorem Gc4 (x y:Int):Pb5 x y=0↔x=y:=by unfold Pb5;split<;>(try split)<;>omega
def LtP (x y:Pln):Prop:=x.n.x < y.n.x∨x.n.x=y.n.x∧(x.n.y < y.n.y∨x.n.y=y.n.y∧(x.n.z < y.n.z∨x.n.z=y.n.z∧x.b < y.b))
instance (x y:Pln):Decidable (LtP x y):=by unfold LtP;exact inferInstance
theorem Jd2 (x y:Pln):Db2 x y < 0↔LtP x y:=by
 have h1:=Zb4 x.n.x y.n.x;have h2:=Gc4 x.n.x y.n.x
 have h3:=Zb4 x.n.y y.n.y;have h4:=Gc4 x.n.y y.n.y
 have h5:=Zb4 x.n.z y.n.z;have h6:=Gc4 x.n.z y.n.z
 have h7:=Zb4 x.b y.b
 unfold Db2 LtP
 split
 ·split
  ·split<;>omega
  ·omega
 ·omega
theorem Za4 (x y:Pln):ltOf Db2 x y=decide (LtP x y):=by
 unfold ltOf
 rw[decide_eq_decide]
 exact Jd2 x y
theorem zf6:SWO (ltOf Db2) where
 irrefl x:=by rw[Za4];simp[LtP]
 trans x y z h1 h2:=by rw[Za4,decide_eq_true_eq] at *;unfold LtP at *;omega
 ntrans x y z h1 h2:=by rw[Za4,decide_eq_false_iff_not] at *;unfold LtP at *;omega
theorem zf7 (x y:Pln) (h1:ltOf Db2 x y=false) (h2:ltOf Db2 y x=false):x=y:=by
 rw[Za4,decide_eq_false_iff_not] at *
 unfold LtP at *
 obtain⟨⟨a,b,c⟩,d⟩:=x;obtain⟨⟨a',b',c'⟩,d'⟩:=y
 simp only at *
 have:a=a'∧b=b'∧c=c'∧d=d':=by omega
 obtain⟨rfl,rfl,rfl,rfl⟩:=this
 rfl
theorem Vd4 (x y:Int):Ua5 x y=some (i (Pb5 x y),[]):=by
 unfold Ua5 Pb5
 simp only[Nb2,decide_eq_true_eq]
 split<;>(try split)<;>rfl
theorem me3 (x y:Int):qa9 x y=Pb5 x y:=by unfold qa9;rw[Vd4];rfl
theorem me4 (x y:Int):ra0 x y=true:=by unfold ra0;rw[Vd4];rfl
theorem ld4 (x y:Pln):Ha9 x y=some (i (Db2 x y),[]):=by
 unfold Ha9 Db2
 simp only[me3,me4,Nb2,beq_iff_eq,if_true]
 repeat' (first | rfl | split)
theorem zf8 (x y:Pln):Wa4 x y=Db2 x y:=by unfold Wa4;rw[ld4];rfl
theorem zf9 (x y:Pln):Wa5 x y=true:=by unfold Wa5;rw[ld4];rfl
theorem Af0 (x y:Pln):(sb1 [.agg (tP.row x),.agg (tP.row y)] []).run=some (i (Db2 x y),[]):=by
 have:(sb1 [.agg (tP.row x),.agg (tP.row y)] []).run=sel (Wa5 x y) (some (i (Wa4 x y),[])) none:=by kernel_rfl
 rw[this,zf9,zf8]
def Lc7 (p:Pln):List Value:=[.int .i64 p.n.x,.int .i64 p.n.y,.int .i64 p.n.z,.int .i64 p.b]
instance:Inhabited Pln:=⟨⟨⟨0,0,0⟩,0⟩⟩
def Ra8 (l:List Pln):List Pln:=l.mergeSort fun x y=>!ltOf Db2 y x
theorem qc5 (l:List Pln):(Ra8 l).length=l.length:=List.length_mergeSort l
noncomputable def ia9:Sum:=me1 tP 104 50 Ra8
theorem He4:Ce.sortLay_ren.f 6=103:=by kernel_rfl
theorem Bd0:Ce.sortLay_ren.t 24=50:=by kernel_rfl
set_option maxRecDepth 100000 in
theorem Aa4:g8 prog G 103 ia9:=by
 refine me2 (enc:=Lc7) (cf:=Db2) ⟨_,Tryz.func103,by kernel_rfl,of_decide_eq_true (by kernel_rfl)⟩ (by decide) (fun _=>rfl) (fun r h=>Ya8 (n:=4) h) (fun x v hv=>?_) qc5
  (fun blk off size w=>me0 Nc7 Af0 (fun _=>rfl) (fun _=>rfl) _ _ _ _ _) (fun blk cap d w hcl hH hb hs=>?_)
 ·simp[Lc7] at hv
  rcases hv with rfl | rfl | rfl | rfl<;>rfl
 ·have eg:∀ args w,(callFunc 104 args).run Tryz.prog w=.ok (.enter 104 args) w:=enters_of Tryz.func104 (by kernel_rfl) rfl
  have:=AnyQ.slices_SortFunc Ce.sortLay 4 (by rw[Bd0];exact Tryz.isAgg50) (by rw[Bd0];exact Tryz.sizeOf50) Lc7 (fun _=>rfl) (fun x v hv=>by simp[Lc7] at hv;rcases hv with rfl | rfl | rfl | rfl<;>rfl) Db2 zf6 104 #[] blk 0 cap d w eg (hcl 0 d.size) hH hb hs
  rw[He4] at this
  refine this.mono fun e w' ⟨h1,d',n,os,h2,h3,h4⟩=>⟨h1,n,os,?_⟩
  have h5:=sorted_unique_holds zf6 zf7 d d' h2 h3
  rw[h4]
  show _=sortWorldK Lc7 4 w blk 0 n (d.toList.mergeSort fun x y=>!ltOf Db2 y x).toArray os
  rw[← h5]
end Go.Ev.Ce
