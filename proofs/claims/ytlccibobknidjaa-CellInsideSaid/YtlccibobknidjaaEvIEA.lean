/- Own work: a part of the proof. -/
import Derived.Test.YtlccibobknidjaaEvIE2
import Derived.Shelf.SlSortCmp.WholeK
import Derived.Test.YtlccibobknidjaaEvSp3
import Derived.KernelRfl
set_option linter.unusedVariables false
set_option linter.unusedSimpArgs false
set_option linter.unnecessarySimpa false
set_option linter.unusedSectionVars false
namespace Go.Ev.Ce
open Go Go.Ev Go.Ev.L Go.Proofs
theorem btD {p:Prop} {inst:Decidable p} (h:p) {α:Type} (t e:α):sl (@decide p inst) t e=t:=bt (decide_eq_true h) t e
theorem bfD {p:Prop} {inst:Decidable p} (h:¬ p) {α:Type} (t e:α):sl (@decide p inst) t e=e:=bf (decide_eq_false h) t e
theorem J7 {j n:Nat} (h:j < n):(j:Int) < (n:Int):=Int.ofNat_lt.2 h
theorem la5 {j n:Nat} (h:¬ j < n):¬ (j:Int) < (n:Int):=fun h'=>h (Int.ofNat_lt.1 h')
theorem Va7 {σ τ α : Type} {step : σ → Stp σ} {mk : Nat → τ → σ} {f : α → List α → τ → τ} {g : List α → τ → τ} {fin : τ → Nat} (l : List α) (I : Nat → τ → Prop) (hl : l.length ≤ 1000000000)
  (g0:∀ a,g [] a=a) (g1:∀ x r a,g (x::r) a=g r (f x r a))
  (h:∀ j a (hj:j < l.length),I j a→step (mk j a)=.next (mk (j+1) (f l[j] (l.drop (j+1)) a))∧I (j+1) (f l[j] (l.drop (j+1)) a))
  (hf:∀ j a,l.length≤j→I j a→step (mk j a)=.exit (fin a)) (j0:Nat) (a:τ) (hi:I j0 a) :
  lp step (mk j0 a)=(fin (g (l.drop j0) a),mk (max j0 l.length) (g (l.drop j0) a))∧I (max j0 l.length) (g (l.drop j0) a):=by
 have key:=hb9 (step:=step) (I:=fun m s=>∃ j b,m=l.length - j∧max j l.length=max j0 l.length∧s=mk j b∧I j b∧g (l.drop j) b=g (l.drop j0) a)
  (Q:=fun u s=>u=fin (g (l.drop j0) a)∧s=mk (max j0 l.length) (g (l.drop j0) a)∧I (max j0 l.length) (g (l.drop j0) a)) (fun m s ⟨j,b,hm,hj,hs,hb,he⟩=>by
   subst hs
   by_cases hlt:j < l.length
   ·obtain⟨h1,h2⟩:=h j b hlt hb
    refine .inr ⟨_,l.length - (j+1),by omega,h1,j+1,_,rfl,by omega,rfl,h2,?_⟩
    rw[← he,List.drop_eq_getElem_cons hlt,g1]
   ·have hd:l.drop j=[]:=List.drop_eq_nil_of_le (by omega)
    rw[hd,g0] at he
    have hj':j=max j0 l.length:=by omega
    subst he
    rw[← hj']
    exact .inl ⟨_,hf j _ (by omega) hb,rfl,rfl,hb⟩) (l.length - j0) (mk j0 a) (by omega) ⟨j0,a,rfl,rfl,rfl,hi,rfl⟩
 exact⟨Prod.ext key.1 key.2.1,key.2.2⟩
noncomputable def xa0 (r:List Pln) (p q:Pln) (out:List Pt) (s:Pln):List Pt :=
 if (mpt p q s).2&&(!Vb2 out (mpt p q s).1&&inn r (mpt p q s).1) then out++[(mpt p q s).1] else out
noncomputable def db4 (r:List Pln) (p q:Pln) (l:List Pln) (out:List Pt):List Pt:=l.foldl (xa0 r p q) out
noncomputable def Ta0 (r:List Pln) (p:Pln):List Pln→List Pt→List Pt
 | [],out=>out
 | q::l,out=>Ta0 r p l (db4 r p q l out)
noncomputable def Lb7 (r:List Pln):List Pln→List Pt→List Pt
 | [],out=>out
 | p::l,out=>Lb7 r l (Ta0 r p l out)
noncomputable def cor (r:List Pln):List Pt:=Lb7 r r []
def Bds (r:List Pln):Prop:=∀ p∈r,Bd p
theorem gc2 (r:List Pln) (p q:Pln) (out:List Pt) (s:Pln):(xa0 r p q out s).length≤out.length+1:=by
 unfold xa0
 split
 ·simp
 ·omega
theorem Vb4 (r:List Pln) (p q:Pln):∀ (l:List Pln) (out:List Pt),(db4 r p q l out).length≤out.length+l.length
 | [],out=>Nat.le_refl _
 | s::l,out=>by
  have h1:=gc2 r p q out s
  have h2:=Vb4 r p q l (xa0 r p q out s)
  show (db4 r p q l (xa0 r p q out s)).length≤_
  simp only[List.length_cons]
  omega
theorem Vb5 (r:List Pln) (p:Pln):∀ (l:List Pln) (out:List Pt),l.length≤200→(Ta0 r p l out).length≤out.length+200*l.length
 | [],out,_=>by simp[Ta0]
 | q::l,out,h=>by
  simp only[List.length_cons] at h ⊢
  have h1:=Vb4 r p q l out
  have h2:=Vb5 r p l (db4 r p q l out) (by omega)
  show (Ta0 r p l (db4 r p q l out)).length≤_
  omega
theorem xc2 (r:List Pln):∀ (l:List Pln) (out:List Pt),l.length≤200→(Lb7 r l out).length≤out.length+40000*l.length
 | [],out,_=>by simp[Lb7]
 | p::l,out,h=>by
  simp only[List.length_cons] at h ⊢
  have h1:=Vb5 r p l out (by omega)
  have h2:=xc2 r l (Ta0 r p l out) (by omega)
  show (Lb7 r l (Ta0 r p l out)).length≤_
  omega
theorem Lc2 (r:List Pln) (_:Bds r) (hr:r.length≤200):(cor r).length≤8000000:=by
 have:=xc2 r r [] hr
 rw[List.length_nil] at this
 show (Lb7 r r []).length≤_
 omega
noncomputable def ph (out:List Pt):Nat:=match out with
 | []=>0
 | _::_=>1
theorem ad1 (x:Pt):Vb2 [] x=false:=rfl
theorem Ob0 {α:Type} (t:Ty α) (l:List α) (n k:Nat):gL t (l.drop n) k=gL t l (n+k):=by simp[gL,List.getD_eq_getElem?_getD,List.getElem?_drop]
theorem ad2 {n:Nat} {l:List Pt} (hn:n=l.length) (h:l.length≤1000000000):(Nat.beq n (len (bL tX l))&&Nat.ble ((n+1)*32) room)=true:=by
 subst hn
 rw[ua0,Nat.beq_refl,Bool.true_and]
 exact yb4 (by omega)
theorem kd6 (l:List Pt) (x:Pt):app (bL tX l) [[i x.px,i x.py,i x.pz,i x.pw]]=bL tX (l++[x]):=Ya4 tX l [x]
noncomputable def slX (l:List Pt):a7×List a8:=match l with
 | []=>(.v (.slice none 0 0),[])
 | _::_=>(.sl 0 0 l.length 0,[⟨53,4,bL tX l,true,false,0⟩])
theorem ad3 (l:List Pt):(one (r1L tX)).rd (slX l)=some l:=by
 cases l with
 | nil=>rfl
 | cons x l =>
  show Bool.rec (motive:=fun _=>Option (List Pt)) none (some (slR tX (bL tX (x::l)) 0 (x::l).length)) (Bool.and true (okS tX (bL tX (x::l)) 0 (x::l).length))=_
  rw[Ec3,Ec4]
  rfl
theorem Va8 {ρ:Type} (R:RR ρ) {x:a7×List a8} {r:ρ} (h:R.rd x=some r):fa4 R (some x)=r:=by
 show Option.rec (motive:=fun _=>ρ) R.d (fun x=>x) (R.rd x)=r
 rw[h]
theorem kb2 {ρ:Type} (R:RR ρ) {x:a7×List a8} {r:ρ} (h:R.rd x=some r):okO R (some x)=true:=by
 show Option.rec (motive:=fun _=>Bool) false (fun _=>true) (R.rd x)=true
 rw[h]
noncomputable def ac8 (x:Pt):List a7:=[i x.px,i x.py,i x.pz,i x.pw,b true]
noncomputable def cb5 (l:List Pt):List (List a7):=l.map ac8
@[reducible] noncomputable def flK:List (Nat×CK):=[(0,(.int .i64)),(1,(.int .i64)),(2,(.int .i64)),(3,(.int .i64))]
theorem xc3 (x q:Pt):ob7 flK [i x.px,i x.py,i x.pz,i x.pw] (ac8 q)=eqX x q:=by
 show Bool.and (decide (x.px=q.px)) (Bool.and (decide (x.py=q.py)) (Bool.and (decide (x.pz=q.pz)) (Bool.and (decide (x.pw=q.pw)) true)))=_
 unfold eqX
 have h:∀ a c:Int,decide (a=c)=(c==a):=fun a c=>by rw[Bool.eq_iff_iff,decide_eq_true_eq,beq_iff_eq];exact eq_comm
 rw[h,h,h,h]
theorem Vb6 (x:Pt):∀ l,vb9 4 flK [i x.px,i x.py,i x.pz,i x.pw] (cb5 l)=Vb2 l x
 | []=>rfl
 | q::l=>by
  have ih:=Vb6 x l
  unfold vb9 at ih ⊢
  show Option.rec (motive:=fun _=>Bool) false (fun r=>toB (hdA (j8 r 4))) (Bool.rec (motive:=fun _=>Option (List a7)) (Hb9 flK [i x.px,i x.py,i x.pz,i x.pw] (cb5 l)) (some (ac8 q)) (ob7 flK [i x.px,i x.py,i x.pz,i x.pw] (ac8 q)))=Vb2 (q::l) x
  rw[xc3]
  unfold Vb2 at ih ⊢
  rw[List.any_cons]
  cases eqX x q with
  | true=>rfl
  | false=>exact ih
theorem gc3 (x:Pt):∀ l,Vb2 l x=false→Qa8 flK [i x.px,i x.py,i x.pz,i x.pw] (ac8 x) (cb5 l)=cb5 (l++[x])
 | [],_=>rfl
 | q::l,h=>by
  unfold Vb2 at h
  rw[List.any_cons,Bool.or_eq_false_iff] at h
  show Bool.rec (motive:=fun _=>List (List a7)) (ac8 q::Qa8 flK [i x.px,i x.py,i x.pz,i x.pw] (ac8 x) (cb5 l)) (ac8 x::cb5 l) (ob7 flK [i x.px,i x.py,i x.pz,i x.pw] (ac8 q))=_
  rw[xc3,h.1,gc3 x l h.2]
  rfl
@[reducible] noncomputable def pb2 (k:Nat) (out:List Pt):e8:=⟨ph out,(k:Int),out.length,bL tX out,cb5 out⟩
structure C2 (P:e7) (r:List Pln) (p q:Pln) (lo:Nat):Prop where
 ns:P.Ic1=(r.drop lo).length
 gs:P.Fa8=fun k=>tP.row (gL tP r (lo+k))
 is:P.pc5=((r.drop lo).length:Int)
 p1:(⟨⟨P.Q0,P.Q1,P.Q3⟩,P.Q4⟩:Pln)=p
 q1:(⟨⟨P.Z0,P.Z1,P.Z2⟩,P.Ia2⟩:Pln)=q
 r1:P.fa2=r
theorem nc4 (s:Pln):(⟨⟨toI (hdA (tP.row s)),toI (hdA (tlA (tP.row s))),toI (hdA (tlA (tlA (tP.row s))))⟩,toI (hdA (tlA (tlA (tlA (tP.row s)))))⟩:Pln)=s:=rfl
theorem nc5 (s:Pln):((Nat.ble 4 (len (tP.row s)))&&(Pa1 [(CK.int .i64),(CK.int .i64),(CK.int .i64),(CK.int .i64)] (tP.row s)))=true:=rfl
theorem kd7 {P : e7} {r : List Pln} {p q : Pln} {lo : Nat} (h : C2 P r p q lo) (hb : Bds r) (hr : r.length ≤ 200) (hp : Bd p) (hq : Bd q) (k : Nat) (out : List Pt) (ho : out.length ≤ 1000000000) (hk : k < (r.drop lo).length) :
  p7 P (pb2 k out)=.next (pb2 (k+1) (xa0 r p q out (r.drop lo)[k])):=by
 have hwi:∀ x,P6 r x=inn r x:=fun x=>Vb0 r x (by omega)
 have hwg:∀ x,P7 r x=true:=fun x=>Vb1 r x (by omega)
 have hs:gL tP r (lo+k)=(r.drop lo)[k]:=by rw[← Ob0,yb5 tP hk]
 have hbs:Bd (r.drop lo)[k]:=hb _ (List.mem_of_mem_drop (List.getElem_mem hk))
 have hd:(r.drop lo).length≤200:=by rw[List.length_drop];omega
 have hme:=ud5 hp hq hbs
 have hmg:=ud6 hp hq hbs
 obtain⟨x1,x2,x3,x4,x5,x6,x7,x8,x9,x10,x11,x12,x13,x14,x15,x16,x17,x18,x19,x20,x21⟩:=P
 obtain⟨ns,gs,is,p1,q1,r1⟩:=h
 simp only at ns gs is p1 q1 r1
 have r1:=r1.symm
 subst ns gs is r1
 unfold p7
 cases out with
 | nil =>
  show s8 Stp.next Stp.exit Stp.fail _ (pb2 k [])=_
  simp only[s8,pb2,Int.toNat_natCast,E5,fa6,p1,q1,hs,nc4,nc5,hme,hmg,hwi,hwg,M3 hk (by omega)]
  rw[btD (J7 hk),bt (q8 hk),L2,L2]
  unfold xa0
  rw[ad1]
  cases (mpt p q (r.drop lo)[k]).2 with
  | false=>rfl
  | true =>
   cases inn r (mpt p q (r.drop lo)[k]).1 with
   | false=>rfl
   | true=>rfl
 | cons o os =>
  show s9 Stp.next Stp.exit Stp.fail _ (pb2 k (o::os))=_
  simp only[s9,pb2,Int.toNat_natCast,E5,fa6,p1,q1,hs,nc4,nc5,hme,hmg,hwi,hwg,M3 hk (by omega),Vb6]
  rw[btD (J7 hk),bt (q8 hk),L2,L2,ad2 rfl ho,kd6]
  unfold xa0
  cases (mpt p q (r.drop lo)[k]).2 with
  | false=>rfl
  | true =>
   cases hx:Vb2 (o::os) (mpt p q (r.drop lo)[k]).1 with
   | true=>rfl
   | false =>
    cases inn r (mpt p q (r.drop lo)[k]).1 with
    | false=>rfl
    | true =>
     show Stp.next (⟨1,((k+1:Nat):Int),(o::os).length+1,bL tX (o::os++[(mpt p q (r.drop lo)[k]).1]),Qa8 flK [i (mpt p q (r.drop lo)[k]).1.px,i (mpt p q (r.drop lo)[k]).1.py,i (mpt p q (r.drop lo)[k]).1.pz,i (mpt p q (r.drop lo)[k]).1.pw] (ac8 (mpt p q (r.drop lo)[k]).1) (cb5 (o::os))⟩:e8)=_
     rw[gc3 _ _ hx]
     simp[ph]
theorem vd0 {P:e7} {r:List Pln} {p q:Pln} {lo:Nat} (h:C2 P r p q lo) (k:Nat) (out:List Pt) (hk:(r.drop lo).length≤k):p7 P (pb2 k out)=.exit (ph out+1):=by
 obtain⟨x1,x2,x3,x4,x5,x6,x7,x8,x9,x10,x11,x12,x13,x14,x15,x16,x17,x18,x19,x20,x21⟩:=P
 obtain⟨ns,gs,is,p1,q1,r1⟩:=h
 simp only at ns gs is p1 q1 r1
 have r1:=r1.symm
 subst ns gs is r1
 unfold p7
 have this:¬ ((k:Int) < ((r.drop lo).length:Int)):=by omega
 cases out with
 | nil =>
  show s8 Stp.next Stp.exit Stp.fail _ (pb2 k [])=_
  simp only[s8,pb2]
  rw[bfD this]
  rfl
 | cons o os =>
  show s9 Stp.next Stp.exit Stp.fail _ (pb2 k (o::os))=_
  simp only[s9,pb2]
  rw[bfD this]
  rfl
theorem kd8 {P : e7} {r : List Pln} {p q : Pln} {lo : Nat} (h : C2 P r p q lo) (hb : Bds r) (hr : r.length ≤ 200) (hp : Bd p) (hq : Bd q) (out : List Pt) (ho : out.length ≤ 100000000) :
  ∃ m,lp (p7 P) (pb2 0 out)=(ph (db4 r p q (r.drop lo) out)+1,pb2 m (db4 r p q (r.drop lo) out)):=by
 have hd:(r.drop lo).length≤200:=by rw[List.length_drop];omega
 exact⟨_,(Va7 (mk:=pb2) (f:=fun s _ out=>xa0 r p q out s) (g:=fun l out=>db4 r p q l out) (fin:=fun out=>ph out+1) (r.drop lo) (fun j o=>o.length≤out.length+j) (by omega)
  (fun _=>rfl) (fun _ _ _=>rfl) (fun j o hj hi=>⟨kd7 h hb hr hp hq j o (by omega) hj,by have:=gc2 r p q o (r.drop lo)[j];show (xa0 r p q o (r.drop lo)[j]).length≤out.length+(j+1);omega⟩)
  (fun j o hj _=>vd0 h j o hj) 0 out (by omega)).1⟩
@[reducible] noncomputable def pb3 (r:List Pln) (j:Nat) (out:List Pt):g9:=⟨ph out,r,(j:Int),r,r,out.length,bL tX out,cb5 out⟩
structure C1 (P:f0) (r:List Pln) (p:Pln) (a:Nat):Prop where
 i3:P.is3=(a:Int)
 ns:P.Cb6=(r.drop (a+1)).length
 gs:P.Ia1=fun k=>tP.row (gL tP r (a+1+k))
 is:P.Y5=((r.drop (a+1)).length:Int)
 p1:(⟨⟨P.Q0,P.Q1,P.Q3⟩,P.Q4⟩:Pln)=p
theorem kd9 {P : f0} {r : List Pln} {p : Pln} {a : Nat} (h : C1 P r p a) (hb : Bds r) (hr : r.length ≤ 200) (hp : Bd p) (j : Nat) (out : List Pt) (ho : out.length ≤ 100000000) (hj : j < (r.drop (a + 1)).length) :
  p8 P (pb3 r j out)=.next (pb3 r (j+1) (db4 r p (r.drop (a+1))[j] ((r.drop (a+1)).drop (j+1)) out)):=by
 have hs:gL tP r (a+1+j)=(r.drop (a+1))[j]:=by rw[← Ob0,yb5 tP hj]
 have hbs:Bd (r.drop (a+1))[j]:=hb _ (List.mem_of_mem_drop (List.getElem_mem hj))
 have hd:=hj
 rw[List.length_drop] at hd
 have hW:W (W ((a:Int)+(j:Int))+2)=((a+1+(j+1):Nat):Int):=by rw[hb8,da1 (by omega) (by omega)];omega
 have hdl:(r.drop (a+1)).length≤4611686018427387904:=by rw[List.length_drop];omega
 have hlo:inB ((a+1+(j+1):Nat):Int) (r.length+1)=true:=q8 (by omega)
 rw[List.drop_drop]
 generalize hq:(r.drop (a+1))[j]=q at *
 obtain⟨x1,x2,x3,x4,x5,x6,x7,x8,x9,x10⟩:=P
 obtain⟨i3,ns,gs,is,p1⟩:=h
 simp only at i3 ns gs is p1
 subst i3 ns gs is
 unfold p8
 have key:∀ (P2:e7),C2 P2 r p q (a+1+(j+1))→_:=fun P2 h2=>kd8 h2 hb hr hp hbs out ho
 cases out with
 | nil =>
  show u9 Stp.next Stp.exit Stp.fail _ (pb3 r j [])=_
  simp only[u9,pb3,E5,G3,M3 hj hdl,hW,Int.toNat_natCast,hs,nc5,hlo]
  rw[show (⟨0,0,0,[],[]⟩:e8)=pb2 0 [] from rfl]
  generalize hP:e7.mk _ _ _ _ _ _ _ _ _ _ _ _ _ _ _ _ _ _ _ _ _=P2
  obtain⟨m,hm⟩:=key P2 (by
   subst hP
   exact⟨by simp,rfl,by simp,p1,nc4 q,rfl⟩)
  rw[hm,btD (J7 hj),bt (q8 hj)]
  cases db4 r p q (r.drop (a+1+(j+1))) []<;>rfl
 | cons o os =>
  show v7 Stp.next Stp.exit Stp.fail _ (pb3 r j (o::os))=_
  simp only[v7,pb3,E5,G3,M3 hj hdl,hW,Int.toNat_natCast,hs,nc5,hlo]
  rw[show (⟨1,0,(o::os).length,bL tX (o::os),cb5 (o::os)⟩:e8)=pb2 0 (o::os) from rfl]
  generalize hP:e7.mk _ _ _ _ _ _ _ _ _ _ _ _ _ _ _ _ _ _ _ _ _=P2
  obtain⟨m,hm⟩:=key P2 (by
   subst hP
   exact⟨by simp,rfl,by simp,p1,nc4 q,rfl⟩)
  rw[hm,btD (J7 hj),bt (q8 hj)]
  cases db4 r p q (r.drop (a+1+(j+1))) (o::os)<;>rfl
theorem vd1 {P:f0} {r:List Pln} {p:Pln} {a:Nat} (h:C1 P r p a) (j:Nat) (out:List Pt) (hj:(r.drop (a+1)).length≤j):p8 P (pb3 r j out)=.exit (ph out+1):=by
 obtain⟨x1,x2,x3,x4,x5,x6,x7,x8,x9,x10⟩:=P
 obtain⟨i3,ns,gs,is,p1⟩:=h
 simp only at i3 ns gs is p1
 subst i3 ns gs is
 unfold p8
 have this:¬ ((j:Int) < ((r.drop (a+1)).length:Int)):=by omega
 cases out with
 | nil =>
  show u9 Stp.next Stp.exit Stp.fail _ (pb3 r j [])=_
  simp only[u9,pb3]
  rw[bfD this]
  rfl
 | cons o os =>
  show v7 Stp.next Stp.exit Stp.fail _ (pb3 r j (o::os))=_
  simp only[v7,pb3]
  rw[bfD this]
  rfl
theorem ld0 {P : f0} {r : List Pln} {p : Pln} {a : Nat} (h : C1 P r p a) (hb : Bds r) (hr : r.length ≤ 200) (hp : Bd p) (out : List Pt) (ho : out.length ≤ 10000000) :
  ∃ m,lp (p8 P) (pb3 r 0 out)=(ph (Ta0 r p (r.drop (a+1)) out)+1,pb3 r m (Ta0 r p (r.drop (a+1)) out)):=by
 have hd:(r.drop (a+1)).length≤200:=by rw[List.length_drop];omega
 exact⟨_,(Va7 (mk:=pb3 r) (f:=fun q l out=>db4 r p q l out) (g:=fun l out=>Ta0 r p l out) (fin:=fun out=>ph out+1) (r.drop (a+1)) (fun k o=>o.length≤out.length+200*k) (by omega)
  (fun _=>rfl) (fun _ _ _=>rfl) (fun k o hj hi=>⟨kd9 h hb hr hp k o (by omega) hj,by
   have:=Vb4 r p (r.drop (a+1))[k] ((r.drop (a+1)).drop (k+1)) o
   rw[List.length_drop] at this
   show (db4 r p (r.drop (a+1))[k] ((r.drop (a+1)).drop (k+1)) o).length≤out.length+200*(k+1)
   omega⟩)
  (fun k o hj _=>vd1 h k o hj) 0 out (by omega)).1⟩
@[reducible] noncomputable def ub2 (r:List Pln) (j:Nat) (out:List Pt):i8:=⟨ph out,r,(j:Int),r,r,out.length,bL tX out,cb5 out⟩
theorem ld1 {P : o2} (r : List Pln) (h : P.wa7 = (r.length : Int)) (hb : Bds r) (hr : r.length ≤ 200) (a : Nat) (ha : a < r.length) (out : List Pt) (ho : out.length ≤ 40000 * a) :
  p9 P (ub2 r a out)=.next (ub2 r (a+1) (Ta0 r r[a] (r.drop (a+1)) out)):=by
 have hbs:Bd r[a]:=hb _ (List.getElem_mem ha)
 have hlo:inB ((a+1:Nat):Int) (r.length+1)=true:=q8 (by omega)
 have key:∀ (P2:f0),C1 P2 r r[a] a→_:=fun P2 h2=>ld0 h2 hb hr hbs out (by omega)
 obtain⟨x1⟩:=P
 simp only at h
 subst h
 unfold p9
 cases out with
 | nil =>
  show v8 Stp.next Stp.exit Stp.fail _ (ub2 r a [])=_
  simp only[v8,ub2,E5,G3,M3 ha (by omega),Int.toNat_natCast,hlo,yb5 tP ha]
  rw[show (⟨0,r,0,r,r,0,[],[]⟩:g9)=pb3 r 0 [] from rfl]
  generalize hP:f0.mk _ _ _ _ _ _ _ _ _ _=P2
  obtain⟨m,hm⟩:=key P2 (by
   subst hP
   exact⟨rfl,by simp,rfl,by simp,rfl⟩)
  rw[hm,btD (J7 ha),bt (q8 ha)]
  cases Ta0 r r[a] (r.drop (a+1)) []<;>rfl
 | cons o os =>
  show w6 Stp.next Stp.exit Stp.fail _ (ub2 r a (o::os))=_
  simp only[w6,ub2,E5,G3,M3 ha (by omega),Int.toNat_natCast,hlo,yb5 tP ha]
  rw[show (⟨1,r,0,r,r,(o::os).length,bL tX (o::os),cb5 (o::os)⟩:g9)=pb3 r 0 (o::os) from rfl]
  generalize hP:f0.mk _ _ _ _ _ _ _ _ _ _=P2
  obtain⟨m,hm⟩:=key P2 (by
   subst hP
   exact⟨rfl,by simp,rfl,by simp,rfl⟩)
  rw[hm,btD (J7 ha),bt (q8 ha)]
  cases Ta0 r r[a] (r.drop (a+1)) (o::os)<;>rfl
theorem vd2 {P:o2} (r:List Pln) (h:P.wa7=(r.length:Int)) (j:Nat) (out:List Pt) (hj:r.length≤j):p9 P (ub2 r j out)=.exit (ph out+1):=by
 obtain⟨x1⟩:=P
 simp only at h
 subst h
 unfold p9
 have this:¬ ((j:Int) < (r.length:Int)):=by omega
 cases out with
 | nil =>
  show v8 Stp.next Stp.exit Stp.fail _ (ub2 r j [])=_
  simp only[v8,ub2]
  rw[bfD this]
  rfl
 | cons o os =>
  show w6 Stp.next Stp.exit Stp.fail _ (ub2 r j (o::os))=_
  simp only[w6,ub2]
  rw[bfD this]
  rfl
theorem ld2 (r:List Pln) (hb:Bds r) (hr:r.length≤200):∃ m,lp (p9 ⟨(r.length:Int)⟩) (ub2 r 0 [])=(ph (cor r)+1,ub2 r m (cor r)) :=
 ⟨_,(Va7 (step:=p9 ⟨(r.length:Int)⟩) (mk:=ub2 r) (f:=fun q l out=>Ta0 r q l out) (g:=fun l out=>Lb7 r l out) (fin:=fun out=>ph out+1) r (fun k o=>o.length≤40000*k) (by omega)
  (fun _=>rfl) (fun _ _ _=>rfl) (fun k o hj hi=>⟨ld1 r rfl hb hr k hj o hi,by
   have h1:=Vb5 r r[k] (r.drop (k+1)) o (by rw[List.length_drop];omega)
   rw[List.length_drop] at h1
   show (Ta0 r r[k] (r.drop (k+1)) o).length≤40000*(k+1)
   omega⟩)
  (fun k o hj _=>vd2 r rfl k o hj) 0 [] (by simp)).1⟩
theorem Vb7 (r:List Pln) (hb:Bds r) (hr:r.length≤200):O4 r=some (slX (cor r)):=by
 obtain⟨m,hm⟩:=ld2 r hb hr
 unfold O4
 simp only[E5,G3]
 rw[show (⟨0,r,0,r,r,0,[],[]⟩:i8)=ub2 r 0 [] from rfl,hm]
 cases cor r<;>rfl
theorem gc4 (r:List Pln) (hb:Bds r) (hr:r.length≤200):O5 r=cor r:=by unfold O5;rw[Vb7 r hb hr];exact Va8 _ (ad3 _)
theorem gc5 (r:List Pln) (hb:Bds r) (hr:r.length≤200):O6 r=true:=by unfold O6;rw[Vb7 r hb hr];exact kb2 _ (ad3 _)
end Go.Ev.Ce
namespace Go.Ev.Ce
open Go Go.Ev Go.Ev.L Go.Proofs
noncomputable def slP (l:List Pln):a7×List a8:=(.sl 0 0 l.length 0,[⟨42,4,bL tP l,true,false,0⟩])
theorem ad4 (l:List Pln):(one (r1L tP)).rd (slP l)=some l:=by
 show Bool.rec (motive:=fun _=>Option (List Pln)) none (some (slR tP (bL tP l) 0 l.length)) (Bool.and true (okS tP (bL tP l) 0 l.length))=_
 rw[Ec3,Ec4]
 rfl
theorem Bd2 {α:Type} (t:Ty α) (l:List α):(one (r1L t)).rd (eL t l,[])=some l:=by
 show Bool.rec (motive:=fun _=>Option (List α)) none (some (rt t l)) (Bool.and (Nat.beq t.es t.es) (okE t l))=_
 rw[E5,fa6,Nat.beq_refl]
 rfl
noncomputable def ws:List Pln:=[⟨⟨1,0,0⟩,24⟩,⟨⟨-1,0,0⟩,24⟩,⟨⟨0,1,0⟩,24⟩,⟨⟨0,-1,0⟩,24⟩,⟨⟨0,0,1⟩,24⟩,⟨⟨0,0,-1⟩,24⟩]
theorem pd8:Bds ws:=by
 intro p hp
 have:okp p=true:=by
  have h:ws.all okp=true:=by decide
  exact List.all_eq_true.1 h p hp
 exact ub1 this
noncomputable def ld3 (lo hi:V3):List Pln:=[⟨⟨1,0,0⟩,hi.x⟩,⟨⟨-1,0,0⟩,W (0 - lo.x)⟩,⟨⟨0,1,0⟩,hi.y⟩,⟨⟨0,-1,0⟩,W (0 - lo.y)⟩,⟨⟨0,0,1⟩,hi.z⟩,⟨⟨0,0,-1⟩,W (0 - lo.z)⟩]
theorem ad5 {l:List (List Pln)} {j:Nat} (h:j < l.length):gL (tLs tP) l j=l[j]:=yb5 (tLs tP) h
theorem ad6 (ls:List (List Pln)) (hn:ls.length≤1000000000) (hl:ls.flatten.length≤1000000000):∃ m,lp (E1 ⟨ls,ls,(ls.length:Int)⟩) ⟨0,0⟩=(1,⟨(ls.flatten.length:Int),m⟩):=by
 have h:=Va7 (step:=E1 ⟨ls,ls,(ls.length:Int)⟩) (mk:=fun j (n:Nat)=>(⟨(n:Int),(j:Int)⟩:o9)) (f:=fun l _ n=>n+l.length) (g:=fun l n=>n+l.flatten.length) (fin:=fun _=>1) ls
  (fun j n=>n+(ls.drop j).flatten.length=ls.flatten.length) hn (fun _=>rfl) (fun x r a=>by simp only[List.flatten_cons,List.length_append];omega)
  (fun j n hj hi=>by
   rw[List.drop_eq_getElem_cons hj,List.flatten_cons,List.length_append] at hi
   have hW:W ((n:Int)+(ls[j].length:Int))=((n+ls[j].length:Nat):Int):=by rw[da1 (by omega) (by omega)];omega
   refine⟨?_,by show n+ls[j].length+(ls.drop (j+1)).flatten.length=_;omega⟩
   simp only[E1,H6,Int.toNat_natCast,ad5 hj,hW,M3 hj (by omega)]
   rw[btD (J7 hj),bt (q8 hj),bfD (by omega)])
  (fun j n hj _=>by
   simp only[E1,H6]
   rw[bfD (by omega)]) 0 0 (by simp)
 have h:=h.1
 rw[List.drop_zero,Nat.zero_add] at h
 exact⟨_,h⟩
theorem ad7 {ls:List (List Pln)} (h:ls.flatten=[]) {j:Nat} (hj:j < ls.length):ls[j]=[]:=by
 rw[List.flatten_eq_nil_iff] at h
 exact h _ (List.getElem_mem hj)
theorem ld4 (ls:List (List Pln)) (hn:ls.length≤1000000000) (hl:ls.flatten=[]):∃ s,lp (z8 ⟨ls,(ls.length:Int)⟩) ⟨0,0,0,[]⟩=(1,s):=by
 have h:=Va7 (step:=z8 ⟨ls,(ls.length:Int)⟩) (mk:=fun j (_:Unit)=>(⟨0,(j:Int),0,[]⟩:i5)) (f:=fun _ _ n=>n) (g:=fun _ n=>n) (fin:=fun _=>1) ls
  (fun _ _=>True) hn (fun _=>rfl) (fun x r a=>rfl)
  (fun j n hj hi=>by
   refine⟨?_,trivial⟩
   show w7 Stp.next Stp.exit Stp.fail _ _=_
   simp only[w7,Int.toNat_natCast,ad5 hj,ad7 hl hj,M3 hj (by omega)]
   rw[btD (J7 hj),bt (q8 hj)]
   rfl)
  (fun j n hj _=>by
   show w7 Stp.next Stp.exit Stp.fail _ _=_
   simp only[w7]
   rw[bfD (by omega)]) 0 () trivial
 exact⟨_,h.1⟩
noncomputable def Ta1 (t:Nat) (d:List Pln):List (List a7):=app (bL tP d) (List.replicate (t - d.length) mc8)
theorem ad8 (t:Nat) (d:List Pln) (h:d.length≤t):len (Ta1 t d)=t:=by
 unfold Ta1
 rw[C8,j7,List.length_append,← j7,ua0,List.length_replicate]
 omega
theorem ad9 (t:Nat) (d l:List Pln) (h:d.length+l.length≤t):app (G0 (Ta1 t d) d.length) (app (bL tP l) (j8 (Ta1 t d) (d.length+len (bL tP l))))=Ta1 t (d++l):=by
 have hd:(bL tP d).length=d.length:=by rw[← j7,ua0]
 unfold Ta1
 rw[ua0,← Ya4]
 simp only[C8,G1,G2]
 rw[List.take_left' hd,List.append_assoc]
 congr 2
 rw[List.drop_append,List.drop_eq_nil_of_le (by omega),List.nil_append,hd,List.drop_replicate,List.length_append]
 congr 1
 omega
theorem bd0 (ls:List (List Pln)) (hn:ls.length≤1000000000):∃ m,lp (z8 ⟨ls,(ls.length:Int)⟩) ⟨1,0,0,List.replicate ls.flatten.length mc8⟩=(2,⟨1,m,ls.flatten.length,bL tP ls.flatten⟩):=by
 have h:=Va7 (step:=z8 ⟨ls,(ls.length:Int)⟩) (mk:=fun j (d:List Pln)=>(⟨1,(j:Int),d.length,Ta1 ls.flatten.length d⟩:i5)) (f:=fun l _ d=>d++l) (g:=fun l d=>d++l.flatten) (fin:=fun _=>2) ls
  (fun j d=>d.length+(ls.drop j).flatten.length=ls.flatten.length) hn (fun _=>by simp) (fun x r a=>by simp)
  (fun j d hj hi=>by
   rw[List.drop_eq_getElem_cons hj,List.flatten_cons,List.length_append] at hi
   refine⟨?_,by show (d++ls[j]).length+(ls.drop (j+1)).flatten.length=_;rw[List.length_append];omega⟩
   show w8 Stp.next Stp.exit Stp.fail _ _=_
   simp only[w8,Int.toNat_natCast,ad5 hj,M3 hj (by omega),tc4]
   rw[ad9 _ _ _ (by omega),ad8 _ _ (by omega),ua0,btD (J7 hj),bt (q8 hj),bt (by rw[Nat.ble_eq];omega),List.length_append])
  (fun j d hj _=>by
   show w8 Stp.next Stp.exit Stp.fail _ _=_
   simp only[w8]
   rw[bfD (by omega)]) 0 [] (by simp)
 have h:=h.1
 rw[List.drop_zero,List.nil_append] at h
 have e:Ta1 ls.flatten.length ls.flatten=bL tP ls.flatten:=by unfold Ta1;rw[Nat.sub_self,C8];simp
 rw[e] at h
 exact⟨_,h⟩
theorem pd9 (ls:List (List Pln)) (hn:ls.length≤1000000000) (hl:ls.flatten.length≤1000000000):Va3 ls=some (slP (ls.flatten++ws)):=by
 have hc:Y9 ls=if ls.flatten=[] then ⟨1,0,[]⟩ else ⟨2,ls.flatten.length,bL tP ls.flatten⟩:=by
  unfold Y9 I4
  simp only[E5,G3]
  obtain⟨m,hm⟩:=ad6 ls hn hl
  rw[hm]
  by_cases h0:ls.flatten=[]
  ·obtain⟨s,hs⟩:=ld4 ls hn h0
   rw[if_pos h0,hs]
   rw[show (⟨(ls.flatten.length:Int),m⟩:o9)=⟨0,m⟩ by rw[h0];rfl]
   rfl
  ·obtain⟨m',hm'⟩:=bd0 ls hn
   rw[if_neg h0]
   simp only[Int.toNat_natCast]
   rw[hm']
   have h1:0 < ls.flatten.length:=List.length_pos_iff.2 h0
   have e1:((ls.flatten.length:Int)==0)=false:=by rw[beq_eq_false_iff_ne];omega
   have e2:Bool.and (decide ((0:Int) < (ls.flatten.length:Int))) (Nat.ble (ls.flatten.length*32) room)=true:=by
    rw[yb4 (by omega),decide_eq_true (by omega)]
    rfl
   rw[e1,e2]
   rfl
 unfold Va3
 simp only[E5,fa6,hc]
 by_cases h0:ls.flatten=[]
 ·rw[if_pos h0,h0];rfl
 ·rw[if_neg h0]
  generalize ls.flatten=c at *
  have e:∀ (d:List Pln) (p:Pln),app (bL tP d) [[i p.n.x,i p.n.y,i p.n.z,i p.b]]=bL tP (d++[p]):=fun d p=>Ya4 tP d [p]
  have c1:=e c ⟨⟨1,0,0⟩,24⟩
  have c2:=e (c++[⟨⟨1,0,0⟩,24⟩]) ⟨⟨-1,0,0⟩,24⟩
  have c3:=e (c++[⟨⟨1,0,0⟩,24⟩]++[⟨⟨-1,0,0⟩,24⟩]) ⟨⟨0,1,0⟩,24⟩
  have c4:=e (c++[⟨⟨1,0,0⟩,24⟩]++[⟨⟨-1,0,0⟩,24⟩]++[⟨⟨0,1,0⟩,24⟩]) ⟨⟨0,-1,0⟩,24⟩
  have c5:=e (c++[⟨⟨1,0,0⟩,24⟩]++[⟨⟨-1,0,0⟩,24⟩]++[⟨⟨0,1,0⟩,24⟩]++[⟨⟨0,-1,0⟩,24⟩]) ⟨⟨0,0,1⟩,24⟩
  have c6:=e (c++[⟨⟨1,0,0⟩,24⟩]++[⟨⟨-1,0,0⟩,24⟩]++[⟨⟨0,1,0⟩,24⟩]++[⟨⟨0,-1,0⟩,24⟩]++[⟨⟨0,0,1⟩,24⟩]) ⟨⟨0,0,-1⟩,24⟩
  simp only at c1 c2 c3 c4 c5 c6
  simp only[c1,c2,c3,c4,c5,c6,ua0,List.length_append,List.length_singleton]
  have g:∀ n:Nat,n≤1000000010→(Nat.beq n n&&Nat.ble ((n+1)*32) room)=true:=fun n h=>by rw[Nat.beq_refl,yb4 (by omega)];rfl
  rw[g _ (by omega),g _ (by omega),g _ (by omega),g _ (by omega),g _ (by omega),g _ (by omega)]
  show some (a7.sl 0 0 (c.length+1+1+1+1+1+1) 0,[(⟨42,4,bL tP _,true,false,0⟩:a8)])=_
  unfold slP
  rw[List.length_append]
  simp only[List.append_assoc]
  rfl
theorem Bd3 (ls:List (List Pln)) (hn:ls.length≤1000000000) (hl:ls.flatten.length≤1000000000):ya6 ls=ls.flatten++ws:=by unfold ya6;rw[pd9 ls hn hl];exact Va8 _ (ad4 _)
theorem Bd4 (ls:List (List Pln)) (hn:ls.length≤1000000000) (hl:ls.flatten.length≤1000000000):ya7 ls=true:=by unfold ya7;rw[pd9 ls hn hl];exact kb2 _ (ad4 _)
theorem qd0 (c:List Pln) (hc:c.length≤1000000000):ya6 [c]=c++ws:=by
 have:[c].flatten=c:=by simp
 rw[Bd3 [c] (by simp) (by rw[this];exact hc),this]
theorem qd1 (c:List Pln) (hc:c.length≤1000000000):ya7 [c]=true:=by
 have:[c].flatten=c:=by simp
 exact Bd4 [c] (by simp) (by rw[this];exact hc)
theorem gc6 (ls:List (List Pln)) (hn:ls.length≤1000000000) (hl:∀ c∈ls,c.length≤1000000000):va1 ls=some (b (ls.all fun c=>chk c==0),[]):=by
 have hv:∀ c∈ls,ua9 c=!(chk c==0)∧va0 c=true:=fun c hc=>by
  have:la1 c=some (b (!(chk c==0)),[]):=by
   unfold la1
   simp only[E5,fa6,Ab6 c (hl c hc),Ab7 c (hl c hc)]
   rfl
  unfold ua9 va0
  rw[this]
  exact⟨rfl,rfl⟩
 have h:=Ya5 (step:=D6 ⟨ls,(ls.length:Int)⟩) (mk:=fun j=>(⟨(j:Int)⟩:l4)) (c:=fun c=>!(chk c==0)) (u:=1) (fin:=2) (tLs tP) ls hn
  (fun j hj=>by
   have hm:=hv _ (lc2 (tLs tP) hj)
   simp only[D6,B0,Int.toNat_natCast,E5,fa6,hm.1,hm.2,M3 hj (by omega)]
   rw[btD (J7 hj),bt (q8 hj),L2,L2])
  (by simp only[D6,B0];rw[bfD (la5 (Nat.lt_irrefl _))]) 0 (Nat.zero_le _)
 rw[List.drop_zero] at h
 have e:(ls.any fun c=>!(chk c==0))=!ls.all fun c=>chk c==0:=by rw[List.not_all_eq_any_not]
 unfold va1 S4 y7 Z4 C0
 simp only[E5,G3]
 rw[show (⟨0⟩:l4)=⟨((0:Nat):Int)⟩ from rfl,h,e]
 cases ls.all fun c=>chk c==0 with
 | true=>rfl
 | false =>
  simp only[Bool.not_false,if_true,Nat.zero_add]
  show sl true (sl (Nat.beq 1 1) (some (b (!(decide (((ls.findIdx fun c=>!(chk c==0):Nat):Int)≥0))),[])) _) _=_
  rw[show decide (((ls.findIdx fun c=>!(chk c==0):Nat):Int)≥0)=true from decide_eq_true (by omega)]
  rfl
theorem xc4 (ls:List (List Pln)) (hn:ls.length≤1000000000) (hl:∀ c∈ls,c.length≤1000000000):T9 ls=ls.all fun c=>chk c==0:=by unfold T9;rw[gc6 ls hn hl];rfl
theorem xc5 (ls:List (List Pln)) (hn:ls.length≤1000000000) (hl:∀ c∈ls,c.length≤1000000000):U0 ls=true:=by unfold U0;rw[gc6 ls hn hl];rfl
theorem Ab8 (c:List Pln) (hc:c.length≤1000000000):T9 [c]=(chk c==0):=by
 rw[xc4 [c] (by simp) (by simpa using hc)]
 simp
theorem Ab9 (c:List Pln) (hc:c.length≤1000000000):U0 [c]=true:=xc5 [c] (by simp) (by simpa using hc)
noncomputable def pos (X:List Pt) (p:Pln):Bool:=X.any fun x=>decide (rm p x > 0)
noncomputable def ball (r:List Pln):Bool:=r.all (pos (cor r))
theorem bd1 (p:Pln) (X:List Pt) (hX:X.length≤1000000000):ba1 ⟨p.n.x,p.n.y,p.n.z,p.b,X⟩=⟨1,!pos X p⟩:=by
 have hw:∀ x:Pt,ga0 ⟨x.px,x.py,x.pz,x.pw,p.n.x,p.n.y,p.n.z,p.b⟩=⟨decide (rm p x > 0)⟩:=fun x=>by
  show L5.mk (decide (fa5 p x > 0))=_
  rw[nc0]
 have h:=Ya5 (step:=F5 ⟨X,(X.length:Int),p.n.x,p.n.y,p.n.z,p.b⟩) (mk:=fun j=>(⟨(j:Int)⟩:n5)) (c:=fun x=>decide (rm p x > 0)) (u:=1) (fin:=2) tX X hX
  (fun j hj=>by
   simp only[F5,D7,Int.toNat_natCast,hw,M3 hj (by omega)]
   rw[btD (J7 hj),bt (q8 hj)])
  (by simp only[F5,D7];rw[bfD (la5 (Nat.lt_irrefl _))]) 0 (Nat.zero_le _)
 rw[List.drop_zero] at h
 unfold ba1 K5 U2 A1 ba8 E2 pos
 simp only[E5,G3]
 rw[show (⟨0⟩:n5)=⟨((0:Nat):Int)⟩ from rfl,h]
 cases X.any fun x=>decide (rm p x > 0) with
 | false=>rfl
 | true =>
  simp only[if_true,Nat.zero_add]
  show Q8.mk 1 (!(decide (((X.findIdx fun x=>decide (rm p x > 0):Nat):Int)≥0)))=_
  rw[show decide (((X.findIdx fun x=>decide (rm p x > 0):Nat):Int)≥0)=true from decide_eq_true (by omega)]
theorem Lc3 (r:List Pln) (hb:Bds r) (hr:r.length≤200):X6 r=some (b (ball r),[]):=by
 have hX:(cor r).length≤1000000000:=Nat.le_trans (Lc2 r hb hr) (by omega)
 have h:=Ya5 (step:=D8 ⟨r,(r.length:Int)⟩) (mk:=fun j=>(⟨(j:Int),cor r⟩:l5)) (c:=fun p=>!pos (cor r) p) (u:=1) (fin:=2) tP r (by omega)
  (fun j hj=>by
   simp only[D8,B1,Int.toNat_natCast,E5,G3,bd1 _ _ hX,M3 hj (by omega)]
   rw[btD (J7 hj),bt (q8 hj)]
   rfl)
  (by simp only[D8,B1];rw[bfD (la5 (Nat.lt_irrefl _))]) 0 (Nat.zero_le _)
 rw[List.drop_zero] at h
 have e:(r.any fun p=>!pos (cor r) p)=!r.all (pos (cor r)):=by rw[List.not_all_eq_any_not]
 unfold X6 S6 y8 Z6 C3 ball
 simp only[E5,G3,fa6,gc4 r hb hr,gc5 r hb hr]
 rw[show (⟨0,cor r⟩:l5)=⟨((0:Nat):Int),cor r⟩ from rfl,h,e]
 cases r.all (pos (cor r)) with
 | true=>rfl
 | false =>
  simp only[Bool.not_false,if_true,Nat.zero_add]
  show some (b (!(decide (((r.findIdx fun p=>!pos (cor r) p:Nat):Int)≥0))),[])=_
  rw[show decide (((r.findIdx fun p=>!pos (cor r) p:Nat):Int)≥0)=true from decide_eq_true (by omega)]
  rfl
theorem bd2 (r:List Pln) (hb:Bds r) (hr:r.length≤200):X7 r=ball r:=by unfold X7;rw[Lc3 r hb hr];rfl
theorem bd3 (r:List Pln) (hb:Bds r) (hr:r.length≤200):X8 r=true:=by unfold X8;rw[Lc3 r hb hr];rfl
theorem Qa5 {c:List Pln} (h:(chk c==0)=true):Bds (c++ws)∧(c++ws).length≤200:=by
 rw[beq_iff_eq,kb1] at h
 refine⟨fun p hp=>?_,by rw[List.length_append,show ws.length=6 from rfl];omega⟩
 rcases List.mem_append.1 hp with hp | hp
 ·exact ub1 (h.2 p hp)
 ·exact pd8 p hp
noncomputable def pts (c:List Pln):List Pt:=if chk c==0 then cor (c++ws) else []
noncomputable def ful (c:List Pln):Bool:=(chk c==0)&&ball (c++ws)
theorem xc6 {c:List Pln} (hc:c.length≤1000000000):∃ x,pa9 c=some x∧(one (r1L tX)).rd x=some (pts c):=by
 unfold pa9 pts
 simp only[E5,fa6,Ab8 c hc,Ab9 c hc,qd0 c hc,qd1 c hc]
 cases h:chk c==0 with
 | false=>exact⟨_,rfl,rfl⟩
 | true =>
  obtain⟨h1,h2⟩:=Qa5 h
  rw[gc4 _ h1 h2,gc5 _ h1 h2]
  exact⟨_,rfl,Bd2 tX _⟩
theorem kb3 {c:List Pln} (hc:c.length≤1000000000):V9 c=pts c:=by
 obtain⟨x,h1,h2⟩:=xc6 hc
 unfold V9;rw[h1];exact Va8 _ h2
theorem kb4 {c:List Pln} (hc:c.length≤1000000000):W0 c=true:=by
 obtain⟨x,h1,h2⟩:=xc6 hc
 unfold W0;rw[h1];exact kb2 _ h2
theorem Lc4 {c:List Pln} (hc:c.length≤1000000000):Ca3 c=some (b (ful c),[]):=by
 unfold Ca3 ful
 simp only[E5,fa6,Ab8 c hc,Ab9 c hc,qd0 c hc,qd1 c hc]
 cases h:chk c==0 with
 | false=>rfl
 | true =>
  obtain⟨h1,h2⟩:=Qa5 h
  rw[bd2 _ h1 h2,bd3 _ h1 h2]
  rfl
theorem kb5 {c:List Pln} (hc:c.length≤1000000000):W4 c=ful c:=by unfold W4;rw[Lc4 hc];rfl
theorem kb6 {c:List Pln} (hc:c.length≤1000000000):M1 c=true:=by unfold M1;rw[Lc4 hc];rfl
end Go.Ev.Ce
section
namespace Go.Ev.Ce
open Go Go.Ev Go.Ev.L Go.Proofs
set_option maxRecDepth 100000
structure ra1 where
 is1:Int
 E3:List Int
 g7:Int
noncomputable def Gb5:List (Nat×Sum):=[(44,Fb5)]
theorem Bb0:m9 prog G Gb5:=⟨Tb8,trivial⟩
structure ra2 where
 alt:Nat
 is0:Int
 g7:Int
noncomputable def aa1 {α:Type} (kk:ra2→α) (x:ra1):α:=let t1:=(Ua8 (gL tI x.E3 (W ((W (x.g7+1)) - 1)).toNat) x.is1);(sl (decide (x.g7≥(↑(List.length x.E3):Int))) (kk ⟨1,0,x.g7⟩) (sl (inB (W ((W (x.g7+1)) - 1)) (List.length x.E3)) (sl (Ia6 (gL tI x.E3 (W ((W (x.g7+1)) - 1)).toNat) x.is1) (kk ⟨1,t1,(W (x.g7+1))⟩) (kk ⟨0,0,0⟩)) (kk ⟨0,0,0⟩)))
noncomputable def M2 (x:ra1):ra2:=aa1 (fun r=>r) x
noncomputable def za0 (x:ra1) (r:ra2):DT (a7×List a8):=(.ite (Nat.beq r.alt 1) (.ret ((i r.is0),[⟨0,2,[[(eL tI x.E3),(i r.g7)]],true,false,0⟩])) .fail)
theorem Lb8 {α β:Type} (F:α→β) (kk:ra2→α) (x:ra1):F (aa1 kk x)=aa1 (fun r=>F (kk r)) x:=by unfold aa1;(repeat' apply A4 (f:=F))<;>rfl
noncomputable def Ea8:Sum:=Ja9 ⟨[(.s (.o (.ptr 0 0 0 0))),(.s (.o (.int .i64)))],[⟨0,2,true,(some [[(.c 1 (nL tI)),(.o (.int .i64))]])⟩],fun a H=>(⟨(toI (slT a 1)),(rL tI (slT (rwT (elT H 0) 0) 0)),(toI (slT (rwT (elT H 0) 0) 1))⟩,())⟩ (fun x=>za0 x (M2 x))
theorem Va9:i7 prog G 41 Ea8:=M5 (enc:=fun x=>⟨[(.ptr 0 0 0 0),(i x.is1)],[⟨0,2,[[(eL tI x.E3),(i x.g7)]],true,false,0⟩]⟩) (fun a H=>by kernel_rfl) (bd b41 Bb0) fun x=>D2 (Eq.trans (b:=aa1 (fun r=>(za0 x r).run) x) (by kernel_rfl) (Lb8 (fun r=>(za0 x r).run) (fun r=>r) x).symm)
structure ob1 where
 is1:Int
 E3:List Int
 g7:Int
noncomputable def Gc7:List (Nat×Sum):=[(41,Ea8)]
theorem xc7:m9 prog G Gc7:=⟨Va9,trivial⟩
structure ob2 where
 alt:Nat
 ma3:Int
 ma4:Int
 ma5:Int
 E3:List Int
 g7:Int
noncomputable def Ia7 {α:Type} (kk:ob2→α) (x:ob1):α:=let t1:=(M2 ⟨(W ((W (2*x.is1))+1)),(rt tI x.E3),x.g7⟩);let t2:=(M2 ⟨(W ((W (2*x.is1))+1)),(rt tI (rt tI x.E3)),t1.g7⟩);let t3:=(M2 ⟨(W ((W (2*x.is1))+1)),(rt tI (rt tI (rt tI x.E3))),t2.g7⟩);(sl ((cnE tI x.E3)&&true) (sl (Nat.beq t1.alt 1) (sl ((cnE tI (rt tI x.E3))&&true) (sl (Nat.beq t2.alt 1) (sl ((cnE tI (rt tI (rt tI x.E3)))&&true) (sl (Nat.beq t3.alt 1) (kk ⟨1,(W (t1.is0 - x.is1)),(W (t2.is0 - x.is1)),(W (t3.is0 - x.is1)),(rt tI (rt tI (rt tI x.E3))),t3.g7⟩) (kk ⟨0,0,0,0,[],0⟩)) (kk ⟨0,0,0,0,[],0⟩)) (kk ⟨0,0,0,0,[],0⟩)) (kk ⟨0,0,0,0,[],0⟩)) (kk ⟨0,0,0,0,[],0⟩)) (kk ⟨0,0,0,0,[],0⟩))
noncomputable def Ia8 (x:ob1):ob2:=Ia7 (fun r=>r) x
noncomputable def ub3 (x:ob1) (r:ob2):DT (a7×List a8):=(.ite (Nat.beq r.alt 1) (.ret ((.agg [(i r.ma3),(i r.ma4),(i r.ma5)]),[⟨0,2,[[(eL tI r.E3),(i r.g7)]],true,false,0⟩])) .fail)
theorem Sc6 {α β:Type} (F:α→β) (kk:ob2→α) (x:ob1):F (Ia7 kk x)=Ia7 (fun r=>F (kk r)) x:=by unfold Ia7;(repeat' apply A4 (f:=F))<;>rfl
noncomputable def gc7:Sum:=Ja9 ⟨[(.s (.o (.ptr 0 0 0 0))),(.s (.o (.int .i64)))],[⟨0,2,true,(some [[(.c 1 (nL tI)),(.o (.int .i64))]])⟩],fun a H=>(⟨(toI (slT a 1)),(rL tI (slT (rwT (elT H 0) 0) 0)),(toI (slT (rwT (elT H 0) 0) 1))⟩,())⟩ (fun x=>ub3 x (Ia8 x))
theorem Gc8:i7 prog G 43 gc7:=M5 (enc:=fun x=>⟨[(.ptr 0 0 0 0),(i x.is1)],[⟨0,2,[[(eL tI x.E3),(i x.g7)]],true,false,0⟩]⟩) (fun a H=>by kernel_rfl) (bd b43 xc7) fun x=>D2 (Eq.trans (b:=Ia7 (fun r=>(ub3 x r).run) x) (by kernel_rfl) (Sc6 (fun r=>(ub3 x r).run) (fun r=>r) x).symm)
noncomputable def Gc9:List (Nat×Sum):=[]
theorem xc8:m9 prog G Gc9:=trivial
noncomputable def za1 (x:V3) (y:V3):V3:=(⟨(W (x.x - y.x)),(W (x.y - y.y)),(W (x.z - y.z))⟩:V3)
noncomputable def gc8:Sum:=pa0 (ja0 tV) (ja0 tV) (fun x y=>.ret ((one r1V).enc (za1 x y),[]))
theorem Hc0:i7 prog G 67 gc8:=ta8 (bd b67 xc8) fun x y=>D2 (by kernel_rfl)
noncomputable def Sc7:List (Nat×Sum):=[(86,xa9)]
theorem Hc1:m9 prog G Sc7:=⟨Qa2,trivial⟩
noncomputable def kb7 (x:V3):Option (a7×List a8):=(sl (decide (x.x < (-24))) (some ((b false),[])) (sl (decide (x.x > 24)) (some ((b false),[])) (sl (decide (x.y < (-24))) (some ((b false),[])) (sl (decide (x.y > 24)) (some ((b false),[])) (sl (decide (x.z < (-24))) (some ((b false),[])) (sl (decide (x.z > 24)) (some ((b false),[])) (some ((b true),[]))))))))
noncomputable def Wa0 (x:V3):Bool:=fa4 (one r1B) (kb7 x)
noncomputable def Wa1 (x:V3):Bool:=okO (one r1B) (kb7 x)
noncomputable def xc9:Sum:=ra8 (ja0 tV) (fun x=>.guard (Wa1 x) (.ret ((one r1B).enc (Wa0 x),[])))
theorem Sc8:i7 prog G 64 xc9:=Ua2 (bd b64 Hc1) (one r1B) (o:=kb7) fun x=>D2 (by kernel_rfl)
noncomputable def Vb8:List (Nat×Sum):=[(64,xc9),(67,gc8),(66,Jb0),(65,Tb7),(68,gc0)]
theorem Lb9:m9 prog G Vb8:=⟨Sc8,Hc0,mc0,wc5,Gc1,trivial⟩
noncomputable def qa1 (x:V3) (y:V3) (z:V3):Option (a7×List a8):=let t1:=(Wa0 x);let t2:=(Wa0 y);let t3:=(Wa0 z);let t4:=(za1 y x);let t5:=(za1 z x);let t6:=(Aa9 t4 t5);let t7:=(ya0 t6);let t8:=(nb9 t7.1 x);(sl (Wa1 x) (sl (!t1) (some ((.tup [(.agg [(i 0),(i 0),(i 0),(i 0)]),(b false)]),[])) (sl (Wa1 y) (sl (!t2) (some ((.tup [(.agg [(i 0),(i 0),(i 0),(i 0)]),(b false)]),[])) (sl (Wa1 z) (sl (!t3) (some ((.tup [(.agg [(i 0),(i 0),(i 0),(i 0)]),(b false)]),[])) (sl (Za1 t6) (sl (t7.2==0) (some ((.tup [(.agg [(i 0),(i 0),(i 0),(i 0)]),(b false)]),[])) (some ((.tup [(.agg [(i t7.1.x),(i t7.1.y),(i t7.1.z),(i t8)]),(b true)]),[]))) none)) none)) none)) none)
noncomputable def Aa0 (x:V3) (y:V3) (z:V3):Pln×Bool:=fa4 (two r1P r1B) (qa1 x y z)
noncomputable def Aa1 (x:V3) (y:V3) (z:V3):Bool:=okO (two r1P r1B) (qa1 x y z)
noncomputable def qb9:Sum:=tc0 (ja0 tV) (ja0 tV) (ja0 tV) (fun x y z=>.guard (Aa1 x y z) (.ret ((two r1P r1B).enc (Aa0 x y z),[])))
theorem Vb9:i7 prog G 42 qb9:=Dd8 (bd b42 Lb9) (two r1P r1B) (o:=qa1) fun x y z=>D2 (by kernel_rfl)
noncomputable def yc0:List (Nat×Sum):=[(41,Ea8),(43,gc7),(42,qb9),(44,Fb5)]
theorem nc6:m9 prog G yc0:=⟨Va9,Gc8,Vb9,Tb8,trivial⟩
noncomputable def sa1 (x:List Int):Option (a7×List a8):=let t1:=(M2 ⟨8,(rt tI x),0⟩);let t2:=(M2 ⟨17,(rt tI (rt tI x)),t1.g7⟩);let t3:=(Ia8 ⟨8,(rt tI (rt tI (rt tI x))),t2.g7⟩);let t4:=(Ia8 ⟨8,(rt tI t3.E3),t3.g7⟩);let t5:=(Ia8 ⟨8,(rt tI t4.E3),t4.g7⟩);let t6:=(Aa0 (⟨t3.ma3,t3.ma4,t3.ma5⟩:V3) (⟨t4.ma3,t4.ma4,t4.ma5⟩:V3) (⟨t5.ma3,t5.ma4,t5.ma5⟩:V3));let t7:=(Ua8 (W (t2.is0 - 8)) 3);(sl ((cnE tI x)&&true) (sl (Nat.beq t1.alt 1) (sl ((cnE tI (rt tI x))&&true) (sl (Nat.beq t2.alt 1) (sl ((cnE tI (rt tI (rt tI x)))&&true) (sl (Nat.beq t3.alt 1) (sl ((cnE tI t3.E3)&&true) (sl (Nat.beq t4.alt 1) (sl ((cnE tI t4.E3)&&true) (sl (Nat.beq t5.alt 1) (sl (Aa1 (⟨t3.ma3,t3.ma4,t3.ma5⟩:V3) (⟨t4.ma3,t4.ma4,t4.ma5⟩:V3) (⟨t5.ma3,t5.ma4,t5.ma5⟩:V3)) (sl (decide (t1.is0 > 1)) (sl t6.2 (some ((.agg [(i t6.1.n.x),(i t6.1.n.y),(i t6.1.n.z),(i t6.1.b)]),[])) (sl (Ia6 (W (t2.is0 - 8)) 3) (sl (t7==1) (some ((.agg [(i 0),(i (W (1 - (W (2*(Int.tmod t1.is0 2)))))),(i 0),(i (W (t2.is0 - 8)))]),[])) (sl (t7==2) (some ((.agg [(i 0),(i 0),(i (W (1 - (W (2*(Int.tmod t1.is0 2)))))),(i (W (t2.is0 - 8)))]),[])) (some ((.agg [(i (W (1 - (W (2*(Int.tmod t1.is0 2)))))),(i 0),(i 0),(i (W (t2.is0 - 8)))]),[])))) none)) (sl (Ia6 (W (t2.is0 - 8)) 3) (sl (t7==1) (some ((.agg [(i 0),(i (W (1 - (W (2*(Int.tmod t1.is0 2)))))),(i 0),(i (W (t2.is0 - 8)))]),[])) (sl (t7==2) (some ((.agg [(i 0),(i 0),(i (W (1 - (W (2*(Int.tmod t1.is0 2)))))),(i (W (t2.is0 - 8)))]),[])) (some ((.agg [(i (W (1 - (W (2*(Int.tmod t1.is0 2)))))),(i 0),(i 0),(i (W (t2.is0 - 8)))]),[])))) none)) none) none) none) none) none) none) none) none) none) none) none)
noncomputable def X9 (x:List Int):Pln:=fa4 (one r1P) (sa1 x)
noncomputable def ab3 (x:List Int):Bool:=okO (one r1P) (sa1 x)
noncomputable def Wb0:Sum:=ra8 (Aa8 tI) (fun x=>.guard (ab3 x) (.ret ((one r1P).enc (X9 x),[])))
theorem yc1:i7 prog G 15 Wb0:=Ua2 (bd b15 nc6) (one r1P) (o:=sa1) fun x=>D2 (by kernel_rfl)
end Go.Ev.Ce
end
section
namespace Go.Ev.Ce
open Go Go.Ev Go.Ev.L Go.Proofs
set_option maxRecDepth 100000
noncomputable def Qa6:List (Nat×Sum):=[]
theorem ub4:m9 prog G Qa6:=trivial
structure Y0 where
 H8:List Pt
 Xb7:List Pt
structure C9 where
 is5:Int
noncomputable def pb4 (p:Y0) (s:C9):St:=⟨((eL tX p.H8)::((eL tX p.Xb7)::(ra 3 ((i s.is5)::(ra 20 []))))),[]⟩
noncomputable def R3 {α:Type} (k:C9→α) (e:Nat→α) (z:α) (p:Y0) (s:C9):α:=(sl (decide (s.is5 < (↑(List.length p.H8):Int))) (sl (inB s.is5 (List.length p.H8)) (sl (inB s.is5 (List.length p.Xb7)) (sl (!(((gL tX p.H8 s.is5.toNat).px==(gL tX p.Xb7 s.is5.toNat).px)&&(((gL tX p.H8 s.is5.toNat).py==(gL tX p.Xb7 s.is5.toNat).py)&&(((gL tX p.H8 s.is5.toNat).pz==(gL tX p.Xb7 s.is5.toNat).pz)&&(((gL tX p.H8 s.is5.toNat).pw==(gL tX p.Xb7 s.is5.toNat).pw)&&true))))) (e 1) (k ⟨(W (s.is5+1))⟩)) z) z) (e 2))
noncomputable def T2 (p:Y0) (s:C9):Stp C9:=R3 .next .exit .fail p s
noncomputable def sa2:Lo Y0 C9:=⟨En Qa6,0,zd9,[1,1,0,1,4,4],[0,1,5],.p,[⟨((.s (.c 4 (nL tX)))::((.s (.c 4 (nL tX)))::(ru2 3 ((.s (.o (.int .i64)))::(ru2 20 []))))),[],fun a H=>(⟨(rL tX (slT a 0)),(rL tX (slT a 1))⟩,⟨(toI (slT a 5))⟩)⟩],T2,[(none,fun p s=>⟨[(b false)],[]⟩),(some 0,fun p s=>⟨((eL tX p.H8)::((eL tX p.Xb7)::(ra 3 ((i s.is5)::(ra 5 ((i s.is5)::((eL tX p.H8)::((i (↑(List.length p.H8):Int))::((b (decide (s.is5 < (↑(List.length p.H8):Int))))::(ra 11 [])))))))))),[]⟩)],pb4⟩
theorem pb5:sa2.Ok:=Lo.ok [] (by kernel_rfl) .nil rfl (.cons (fun a H=>by kernel_rfl) .nil) fun p s=>(.of @R3 (fun F _ _ _ _ _=>by unfold R3;(repeat' apply A4 (f:=F))<;>rfl) (by kernel_rfl))
noncomputable def ea5 (x:List Pt) (y:List Pt):Option (a7×List a8):=let t1:=(lp (T2 (⟨(rt tX x),(rt tX y)⟩:Y0)) (⟨0⟩:C9));(sl ((↑(List.length x):Int) != (↑(List.length y):Int)) (some ((b false),[])) (sl ((cnE tX x)&&((cnE tX y)&&true)) (sl (Nat.beq t1.1 1) (some ((b false),[])) (sl (Nat.beq t1.1 2) (some ((b true),[])) none)) none))
noncomputable def ea6 (x:List Pt) (y:List Pt):Bool:=fa4 (one r1B) (ea5 x y)
noncomputable def ea7 (x:List Pt) (y:List Pt):Bool:=okO (one r1B) (ea5 x y)
noncomputable def Wa2:Sum:=pa0 (Aa8 tX) (Aa8 tX) (fun x y=>.guard (ea7 x y) (.ret ((one r1B).enc (ea6 x y),[])))
theorem Bb1:i7 prog G 22 Wa2:=Eb4 (bd b22 ub4) (one r1B) (o:=ea5) fun x y=>db0 (.s .p (.s .p (.s (.s .p (.b (.u sa2.ls))) .p))) [sa2.pr] (by kernel_rfl) (.cons pb5 .nil) (by kernel_rfl)
noncomputable def Jb3:List (Nat×Sum):=[]
theorem nc7:m9 prog G Jb3:=trivial
structure va7 where
 w9:List Pln
 Xb8:List Pln
structure U9 where
 is5:Int
noncomputable def ac9 (p:va7) (s:U9):St:=⟨((eL tP p.w9)::((eL tP p.Xb8)::(ra 3 ((i s.is5)::(ra 20 []))))),[]⟩
noncomputable def la6 {α:Type} (k:U9→α) (e:Nat→α) (z:α) (p:va7) (s:U9):α:=(sl (decide (s.is5 < (↑(List.length p.w9):Int))) (sl (inB s.is5 (List.length p.w9)) (sl (inB s.is5 (List.length p.Xb8)) (sl (!(((gL tP p.w9 s.is5.toNat).n.x==(gL tP p.Xb8 s.is5.toNat).n.x)&&(((gL tP p.w9 s.is5.toNat).n.y==(gL tP p.Xb8 s.is5.toNat).n.y)&&(((gL tP p.w9 s.is5.toNat).n.z==(gL tP p.Xb8 s.is5.toNat).n.z)&&(((gL tP p.w9 s.is5.toNat).b==(gL tP p.Xb8 s.is5.toNat).b)&&true))))) (e 1) (k ⟨(W (s.is5+1))⟩)) z) z) (e 2))
noncomputable def qa2 (p:va7) (s:U9):Stp U9:=la6 .next .exit .fail p s
noncomputable def ab4:Lo va7 U9:=⟨En Jb3,0,Ad0,[1,1,0,1,4,4],[0,1,5],.p,[⟨((.s (.c 4 (nL tP)))::((.s (.c 4 (nL tP)))::(ru2 3 ((.s (.o (.int .i64)))::(ru2 20 []))))),[],fun a H=>(⟨(rL tP (slT a 0)),(rL tP (slT a 1))⟩,⟨(toI (slT a 5))⟩)⟩],qa2,[(none,fun p s=>⟨[(b false)],[]⟩),(some 0,fun p s=>⟨((eL tP p.w9)::((eL tP p.Xb8)::(ra 3 ((i s.is5)::(ra 5 ((i s.is5)::((eL tP p.w9)::((i (↑(List.length p.w9):Int))::((b (decide (s.is5 < (↑(List.length p.w9):Int))))::(ra 11 [])))))))))),[]⟩)],ac9⟩
theorem bc0:ab4.Ok:=Lo.ok [] (by kernel_rfl) .nil rfl (.cons (fun a H=>by kernel_rfl) .nil) fun p s=>(.of @la6 (fun F _ _ _ _ _=>by unfold la6;(repeat' apply A4 (f:=F))<;>rfl) (by kernel_rfl))
noncomputable def La4 (x:List Pln) (y:List Pln):Option (a7×List a8):=let t1:=(lp (qa2 (⟨(rt tP x),(rt tP y)⟩:va7)) (⟨0⟩:U9));(sl ((↑(List.length x):Int) != (↑(List.length y):Int)) (some ((b false),[])) (sl ((cnE tP x)&&((cnE tP y)&&true)) (sl (Nat.beq t1.1 1) (some ((b false),[])) (sl (Nat.beq t1.1 2) (some ((b true),[])) none)) none))
noncomputable def ab5 (x:List Pln) (y:List Pln):Bool:=fa4 (one r1B) (La4 x y)
noncomputable def ab6 (x:List Pln) (y:List Pln):Bool:=okO (one r1B) (La4 x y)
noncomputable def Wb1:Sum:=pa0 (Aa8 tP) (Aa8 tP) (fun x y=>.guard (ab6 x y) (.ret ((one r1B).enc (ab5 x y),[])))
theorem yc2:i7 prog G 23 Wb1:=Eb4 (bd b23 nc7) (one r1B) (o:=La4) fun x y=>db0 (.s .p (.s .p (.s (.s .p (.b (.u ab4.ls))) .p))) [ab4.pr] (by kernel_rfl) (.cons bc0 .nil) (by kernel_rfl)
end Go.Ev.Ce
end
namespace Go.Ev.Ce
open Go Go.Ev Go.Ev.L Go.Proofs
theorem yc3 {Q:Pt→Prop} (r:List Pln) (p q:Pln):∀ (l:List Pln) (out:List Pt),(∀ s∈l,(mpt p q s).2=true→inn r (mpt p q s).1=true→Q (mpt p q s).1)→(∀ x∈out,Q x)→∀ x∈db4 r p q l out,Q x
 | [],out,_,h=>h
 | s::l,out,hs,h=>yc3 r p q l (xa0 r p q out s) (fun t ht=>hs t (List.mem_cons_of_mem _ ht)) fun x hx=>by
  unfold xa0 at hx
  split at hx
  ·rename_i hc
   rw[Bool.and_eq_true,Bool.and_eq_true] at hc
   rcases List.mem_append.1 hx with hx | hx
   ·exact h x hx
   ·rw[List.mem_singleton] at hx
    subst hx
    exact hs s List.mem_cons_self hc.1 hc.2.2
  ·exact h x hx
theorem yc4 {Q:Pt→Prop} (r:List Pln) (p:Pln):∀ (l:List Pln) (out:List Pt),(∀ q∈l,∀ s∈l,(mpt p q s).2=true→inn r (mpt p q s).1=true→Q (mpt p q s).1)→(∀ x∈out,Q x)→∀ x∈Ta0 r p l out,Q x
 | [],out,_,h=>h
 | q::l,out,hs,h=>yc4 r p l _ (fun a ha t ht=>hs a (List.mem_cons_of_mem _ ha) t (List.mem_cons_of_mem _ ht)) (yc3 r p q l out (fun t ht=>hs q List.mem_cons_self t (List.mem_cons_of_mem _ ht)) h)
theorem yc5 {Q:Pt→Prop} (r:List Pln):∀ (l:List Pln) (out:List Pt),(∀ p∈l,∀ q∈l,∀ s∈l,(mpt p q s).2=true→inn r (mpt p q s).1=true→Q (mpt p q s).1)→(∀ x∈out,Q x)→∀ x∈Lb7 r l out,Q x
 | [],out,_,h=>h
 | p::l,out,hs,h=>yc5 r l _ (fun a ha c hc t ht=>hs a (List.mem_cons_of_mem _ ha) c (List.mem_cons_of_mem _ hc) t (List.mem_cons_of_mem _ ht)) (yc4 r p l out (fun c hc t ht=>hs p List.mem_cons_self c (List.mem_cons_of_mem _ hc) t (List.mem_cons_of_mem _ ht)) h)
theorem Lc5 {Q:Pt→Prop} {r:List Pln} (hs:∀ p∈r,∀ q∈r,∀ s∈r,(mpt p q s).2=true→inn r (mpt p q s).1=true→Q (mpt p q s).1):∀ x∈cor r,Q x :=
 yc5 r r [] hs fun x hx=>by cases hx
structure Okx (x:Pt):Prop where
 w1:0 < x.pw
 w2:x.pw≤600000000000
 c1:Sm 300000000000000 x.px
 c2:Sm 300000000000000 x.py
 c3:Sm 300000000000000 x.pz
theorem Ob1 {r:List Pln} (hb:Bds r):∀ x∈cor r,Okx x:=Lc5 fun p hp q hq s hs h _=>by
 obtain⟨h1,h2,h3,h4,h5⟩:=Gc4 (hb p hp) (hb q hq) (hb s hs) h
 exact⟨h1,h5,h2,h3,h4⟩
theorem ld5 {c:List Pln}:∀ x∈pts c,Okx x:=by
 unfold pts
 cases h:chk c==0 with
 | false=>intro x hx;cases hx
 | true=>exact Ob1 (Qa5 h).1
theorem nc8 (c:List Pln):(pts c).length≤8000000:=by
 unfold pts
 cases h:chk c==0 with
 | false=>exact Nat.zero_le _
 | true=>exact Lc2 _ (Qa5 h).1 (Qa5 h).2
theorem yc6 {x y:Int} (hy:0 < y):Int.tmod x y+y*Int.tdiv x y=x∧-y < Int.tmod x y∧Int.tmod x y < y:=by
 refine⟨Int.tmod_add_mul_tdiv x y,?_,Int.tmod_lt_of_pos x hy⟩
 have:=Int.lt_tmod_of_pos x hy
 omega
theorem Lc6 {x y q r:Int} (hy:0 < y) (h:r+y*q=x) (h1:0≤r) (h2:r < y):x / y=q:=((Int.ediv_emod_unique hy).2 ⟨h,h1,h2⟩).1
theorem ld6 {x y:Int} (hx:Sm 300000000000000 x) (hy:0 < y):Sm 300000000000000 (Int.tdiv x y):=L7 hx hy
theorem yc7 {x y:Int} (hx:Sm 300000000000000 x) (hy:0 < y):va5 x y=some (i (x / y),[]):=by
 have hz:(y==0)=false:=by rw[beq_eq_false_iff_ne];omega
 obtain⟨h1,h2,h3⟩:=yc6 (x:=x) hy
 have hb:=ld6 hx hy
 unfold va5
 rw[bf hz,bf hz,Va6 (hb.mono (by omega))]
 by_cases h:Int.tmod x y < 0
 ·rw[btD h,Lc6 hy (q:=Int.tdiv x y - 1) (r:=Int.tmod x y+y) (by rw[Int.mul_sub];omega) (by omega) (by omega),da1 (by have:=hb.1;omega) (by have:=hb.2;omega)]
 ·rw[bfD h,Lc6 hy h1 (by omega) h3]
theorem ob3 {x y:Int} (hx:Sm 300000000000000 x) (hy:0 < y):U4 x y=x / y:=by unfold U4;rw[yc7 hx hy];rfl
theorem ob4 {x y:Int} (hx:Sm 300000000000000 x) (hy:0 < y):U5 x y=true:=by unfold U5;rw[yc7 hx hy];rfl
theorem bd4 (x:Int) {y:Int} (hy:0 < y) (hy2:y≤4000000000000000000):Ua7 x y=some (i (x % y),[]):=by
 have hz:(y==0)=false:=by rw[beq_eq_false_iff_ne];omega
 obtain⟨h1,h2,h3⟩:=yc6 (x:=x) hy
 unfold Ua7
 rw[bfD (by omega),bf hz,bf hz,da1 (by omega) (by omega),Int.tmod_eq_emod_of_nonneg (by omega)]
 congr 3
 rw[Int.add_emod_right]
 conv=>rhs;rw[← h1]
 rw[Int.add_mul_emod_self_left]
theorem Bd5 (x:Int) {y:Int} (hy:0 < y) (hy2:y≤4000000000000000000):Ua8 x y=x % y:=by unfold Ua8;rw[bd4 x hy hy2];rfl
theorem bd5 (x:Int) {y:Int} (hy:0 < y) (hy2:y≤4000000000000000000):Ia6 x y=true:=by unfold Ia6;rw[bd4 x hy hy2];rfl
noncomputable def Bb2 (s:V3×V3) (x:Pt):V3×V3 :=
 (⟨if x.px / x.pw < s.1.x then x.px / x.pw else s.1.x,if x.py / x.pw < s.1.y then x.py / x.pw else s.1.y,if x.pz / x.pw < s.1.z then x.pz / x.pw else s.1.z⟩,
  ⟨if W (0 - -x.px / x.pw) > s.2.x then W (0 - -x.px / x.pw) else s.2.x,if W (0 - -x.py / x.pw) > s.2.y then W (0 - -x.py / x.pw) else s.2.y,if W (0 - -x.pz / x.pw) > s.2.z then W (0 - -x.pz / x.pw) else s.2.z⟩)
noncomputable def bnd (c:List Pln):V3×V3×Bool :=
 if ful c then (((pts c).foldl Bb2 (⟨24,24,24⟩,⟨-24,-24,-24⟩)).1,((pts c).foldl Bb2 (⟨24,24,24⟩,⟨-24,-24,-24⟩)).2,true) else (⟨0,0,0⟩,⟨0,0,0⟩,false)
theorem bd6 {x:Int} (h:Sm 300000000000000 x):W (0 - x)=-x:=by obtain⟨h1,h2⟩:=h;rw[da1 (by omega) (by omega)];omega
theorem Sm.neg {n x:Int} (h:Sm n x):Sm n (-x):=⟨by have:=h.2;omega,by have:=h.1;omega⟩
noncomputable def Bd6 (r:V3×V3×Bool):a7:=.tup [.agg (tV.row r.1),.agg (tV.row r.2.1),b r.2.2]
theorem Hc2 (X:List Pt) (hX:X.length≤8000000) (hok:∀ x∈X,Okx x) (s:V3×V3):∃ m,lp (aa0 ⟨X,(X.length:Int)⟩) ⟨0,s.1.x,s.1.y,s.1.z,s.2.x,s.2.y,s.2.z⟩=(1,⟨m,(X.foldl Bb2 s).1.x,(X.foldl Bb2 s).1.y,(X.foldl Bb2 s).1.z,(X.foldl Bb2 s).2.x,(X.foldl Bb2 s).2.y,(X.foldl Bb2 s).2.z⟩):=by
 have h:=Nb6 (step:=aa0 ⟨X,(X.length:Int)⟩) (mk:=fun j (s:V3×V3)=>(⟨(j:Int),s.1.x,s.1.y,s.1.z,s.2.x,s.2.y,s.2.z⟩:R2)) (f:=Bb2) (fin:=1) tX X (fun _ _=>True) (by omega)
  (fun j s hj _=>⟨by
   have hx:=hok _ (lc2 tX hj)
   simp only[aa0,ea4,Int.toNat_natCast,bd6 hx.c1,bd6 hx.c2,bd6 hx.c3,ob3 hx.c1 hx.w1,ob3 hx.c2 hx.w1,ob3 hx.c3 hx.w1,ob4 hx.c1 hx.w1,ob4 hx.c2 hx.w1,ob4 hx.c3 hx.w1,
    ob3 hx.c1.neg hx.w1,ob3 hx.c2.neg hx.w1,ob3 hx.c3.neg hx.w1,ob4 hx.c1.neg hx.w1,ob4 hx.c2.neg hx.w1,ob4 hx.c3.neg hx.w1,M3 hj (by omega)]
   rw[btD (J7 hj),bt (q8 hj)]
   rfl,trivial⟩)
  (fun s _=>by simp only[aa0,ea4];rw[bfD (la5 (Nat.lt_irrefl _))]) 0 (Nat.zero_le _) s trivial
 have h:=h.1
 rw[List.drop_zero] at h
 exact⟨_,h⟩
theorem yc8 {c:List Pln} (hc:c.length≤1000000000):va6 c=some (Bd6 (bnd c),[]):=by
 have ht:L4 ⟨24,24,24⟩ (-1)=⟨-24,-24,-24⟩:=by
  unfold L4
  rw[show W (24*-1)=-24 from by rw[Wc5];rfl]
 obtain⟨m,hm⟩:=Hc2 (pts c) (nc8 c) ld5 (⟨24,24,24⟩,⟨-24,-24,-24⟩)
 unfold va6 bnd
 simp only[E5,fa6,G3,kb5 hc,kb6 hc,kb3 hc,kb4 hc,ht,hm]
 cases ful c<;>rfl
theorem Lc7 (r:V3×V3×Bool):(tc8 r1V r1V r1B).rd (Bd6 r,[])=some r:=rfl
theorem ld7 {c:List Pln} (hc:c.length≤1000000000):Ha5 c=bnd c:=by unfold Ha5;rw[yc8 hc];exact Va8 _ (Lc7 _)
theorem ld8 {c:List Pln} (hc:c.length≤1000000000):Ha6 c=true:=by unfold Ha6;rw[yc8 hc];exact kb2 _ (Lc7 _)
theorem bd7 (x:Pt):(x.px==x.px&&(x.py==x.py&&(x.pz==x.pz&&(x.pw==x.pw&&true))))=true:=(nc2 x x).2 rfl
theorem bd8 (x:Pln):(x.n.x==x.n.x&&(x.n.y==x.n.y&&(x.n.z==x.n.z&&(x.b==x.b&&true))))=true:=by simp
theorem rb0 (l:List Pt) (hl:l.length≤1000000000):ea5 l l=some (b true,[]):=by
 have h:=Ec8 (step:=T2 ⟨l,l⟩) (mk:=fun j=>(⟨(j:Int)⟩:C9)) (c:=fun _=>false) (u:=1) (fin:=2) tX l hl
  (fun j hj=>by
   simp only[T2,R3,Int.toNat_natCast,M3 hj (by omega),bd7]
   rw[btD (J7 hj),bt (q8 hj),bt (q8 hj)]
   rfl)
  (by simp only[T2,R3];rw[bfD (la5 (Nat.lt_irrefl _))]) 0 (Nat.zero_le _)
 rw[List.drop_zero,show (l.any fun _=>false)=false by simp] at h
 unfold ea5
 simp only[E5,G3]
 rw[show (⟨0⟩:C9)=⟨((0:Nat):Int)⟩ from rfl,h,bf (by simp)]
 rfl
theorem Bb3 (l:List Pt) (hl:l.length≤1000000000):ea6 l l=true:=by unfold ea6;rw[rb0 l hl];rfl
theorem Bb4 (l:List Pt) (hl:l.length≤1000000000):ea7 l l=true:=by unfold ea7;rw[rb0 l hl];rfl
theorem Lc8 (l:List Pln) (hl:l.length≤1000000000):La4 l l=some (b true,[]):=by
 have h:=Ec8 (step:=qa2 ⟨l,l⟩) (mk:=fun j=>(⟨(j:Int)⟩:U9)) (c:=fun _=>false) (u:=1) (fin:=2) tP l hl
  (fun j hj=>by
   simp only[qa2,la6,Int.toNat_natCast,M3 hj (by omega),bd8]
   rw[btD (J7 hj),bt (q8 hj),bt (q8 hj)]
   rfl)
  (by simp only[qa2,la6];rw[bfD (la5 (Nat.lt_irrefl _))]) 0 (Nat.zero_le _)
 rw[List.drop_zero,show (l.any fun _=>false)=false by simp] at h
 unfold La4
 simp only[E5,G3]
 rw[show (⟨0⟩:U9)=⟨((0:Nat):Int)⟩ from rfl,h,bf (by simp)]
 rfl
theorem vd3 (l:List Pln) (hl:l.length≤1000000000):ab5 l l=true:=by unfold ab5;rw[Lc8 l hl];rfl
theorem vd4 (l:List Pln) (hl:l.length≤1000000000):ab6 l l=true:=by unfold ab6;rw[Lc8 l hl];rfl
end Go.Ev.Ce
namespace Go.Ev.Ce
open Go Go.Ev Go.Ev.L Go.Proofs
def Nx {σ:Type} (x:Stp σ) (E:Nat→Prop) (N:σ→Prop):Prop:=(∃ t,x=.exit t∧E t)∨∃ s,x=.next s∧N s
theorem Nx.sl {σ:Type} {c:Bool} {t e:Stp σ} {E:Nat→Prop} {N:σ→Prop} (h1:c=true→Nx t E N) (h2:c=false→Nx e E N):Nx (sl c t e) E N:=by cases c;exact h2 rfl;exact h1 rfl
theorem Nx.ex {σ:Type} {t:Nat} {E:Nat→Prop} {N:σ→Prop} (h:E t):Nx (.exit t) E N:=.inl ⟨t,rfl,h⟩
theorem Nx.nx {σ:Type} {s:σ} {E:Nat→Prop} {N:σ→Prop} (h:N s):Nx (.next s) E N:=.inr ⟨s,rfl,h⟩
theorem nc9 {σ τ : Type} {step : σ → Stp σ} {mk : Nat → τ → σ} (n : Nat) (I : Nat → τ → Prop) (E : Nat → σ → Prop) (hn : n ≤ 1000000000)
  (h:∀ j a,j < n→I j a→Nx (step (mk j a)) (fun t=>E t (mk j a)) (fun s=>∃ a',s=mk (j+1) a'∧I (j+1) a'))
  (hf:∀ j a,n≤j→I j a→∃ t,step (mk j a)=.exit t∧E t (mk j a)) (j0:Nat) (a:τ) (hi:I j0 a):∃ t s,lp step (mk j0 a)=(t,s)∧E t s:=by
 have key:=hb9 (step:=step) (I:=fun m s=>∃ j a,m=n - j∧s=mk j a∧I j a) (Q:=E) (fun m s ⟨j,a,hm,hs,ha⟩=>by
  subst hs
  by_cases hlt:j < n
  ·rcases h j a hlt ha with h1 | ⟨s',h1,a',h2,h3⟩
   ·exact .inl h1
   ·subst h2
    exact .inr ⟨_,n - (j+1),by omega,h1,j+1,a',rfl,rfl,h3⟩
  ·exact .inl (hf j a (by omega) ha)) (n - j0) (mk j0 a) (by omega) ⟨j0,a,rfl,rfl,hi⟩
 exact⟨_,_,rfl,key⟩
def Rd {ρ:Type} (R:RR ρ) (o:Option (a7×List a8)) (P:ρ→Prop):Prop:=∃ x r,o=some x∧R.rd x=some r∧P r
theorem Rd.p {ρ:Type} {R:RR ρ} {o:Option (a7×List a8)} {P:ρ→Prop} (h:Rd R o P):P (fa4 R o):=by
 obtain⟨x,r,h1,h2,h3⟩:=h
 rw[h1,Va8 R h2]
 exact h3
theorem Rd.g {ρ:Type} {R:RR ρ} {o:Option (a7×List a8)} {P:ρ→Prop} (h:Rd R o P):okO R o=true:=by
 obtain⟨x,r,h1,h2,h3⟩:=h
 rw[h1]
 exact kb2 R h2
theorem Rd.sl {ρ:Type} {R:RR ρ} {c:Bool} {t e:Option (a7×List a8)} {P:ρ→Prop} (h1:c=true→Rd R t P) (h2:c=false→Rd R e P):Rd R (sl c t e) P:=by cases c;exact h2 rfl;exact h1 rfl
theorem ab7 (n : Int) (l : List Int) (j : Int) (h1 : 0 ≤ j) (h2 : j ≤ 1000000) (hn : 0 < n) (hn2 : n ≤ 1000000) :
  ∃ v j',M2 ⟨n,l,j⟩=⟨1,v,j'⟩∧0≤v∧v < n∧j≤j'∧j'≤j+1:=by
 unfold M2 aa1
 simp only
 by_cases h:j≥(l.length:Int)
 ·rw[btD h]
  exact⟨0,j,rfl,by omega,hn,by omega,by omega⟩
 ·rw[bfD h]
  have hW:W (W (j+1) - 1)=j:=by rw[lc1,da1 (by omega) (by omega)];omega
  have hW2:W (j+1)=j+1:=da1 (by omega) (by omega)
  have hin:inB j l.length=true:=by rw[id5];exact decide_eq_true (by omega)
  rw[hW,hW2,hin,bd5 _ hn (by omega),Bd5 _ hn (by omega)]
  exact⟨_,_,rfl,Int.emod_nonneg _ (by omega),Int.emod_lt_of_pos _ hn,by omega,by omega⟩
theorem Gb6 (m : Int) (l : List Int) (j : Int) (h1 : 0 ≤ j) (h2 : j ≤ 900000) (hm : 0 ≤ m) (hm2 : m ≤ 100000) :
  ∃ a b c j',Ia8 ⟨m,l,j⟩=⟨1,a,b,c,l,j'⟩∧Sm m a∧Sm m b∧Sm m c∧j≤j'∧j'≤j+3:=by
 unfold Ia8 Ia7
 simp only[E5,G3]
 have hW:W (W (2*m)+1)=2*m+1:=by rw[hb8,da1 (by omega) (by omega)]
 rw[hW]
 obtain⟨v1,j1,e1,a1,b1,c1,d1⟩:=ab7 (2*m+1) l j h1 (by omega) (by omega) (by omega)
 rw[e1]
 obtain⟨v2,j2,e2,a2,b2,c2,d2⟩:=ab7 (2*m+1) l j1 (by omega) (by omega) (by omega) (by omega)
 simp only
 rw[e2]
 obtain⟨v3,j3,e3,a3,b3,c3,d3⟩:=ab7 (2*m+1) l j2 (by omega) (by omega) (by omega) (by omega)
 simp only
 rw[e3]
 refine⟨v1 - m,v2 - m,v3 - m,j3,?_,⟨by omega,by omega⟩,⟨by omega,by omega⟩,⟨by omega,by omega⟩,by omega,by omega⟩
 simp only
 rw[da1 (n:=v1 - m) (by omega) (by omega),da1 (n:=v2 - m) (by omega) (by omega),da1 (n:=v3 - m) (by omega) (by omega)]
 rfl
def inV (v:V3):Bool:=smb 24 v.x&&(smb 24 v.y&&smb 24 v.z)
theorem ob5 (v:V3):inV v=true↔Sm 24 v.x∧Sm 24 v.y∧Sm 24 v.z:=by unfold inV;rw[Bool.and_eq_true,Bool.and_eq_true,za9,za9,za9]
theorem bd9 (v:V3):kb7 v=some (b (inV v),[]):=by
 unfold kb7 inV smb
 cases h1:decide (v.x < -24)<;>cases h2:decide (v.x > 24)<;>cases h3:decide (v.y < -24)<;>cases h4:decide (v.y > 24)<;>cases h5:decide (v.z < -24)<;>cases h6:decide (v.z > 24)<;>rfl
theorem Bd7 (v:V3):Wa0 v=inV v:=by unfold Wa0;rw[bd9];rfl
theorem Bd8 (v:V3):Wa1 v=true:=by unfold Wa1;rw[bd9];rfl
def sub (a b:V3):V3:=⟨a.x - b.x,a.y - b.y,a.z - b.z⟩
theorem Lc9 {a b:V3} (ha:inV a=true) (hb:inV b=true):za1 a b=sub a b∧Sm 48 (sub a b).x∧Sm 48 (sub a b).y∧Sm 48 (sub a b).z:=by
 rw[ob5] at ha hb
 obtain⟨⟨a1,a2⟩,⟨a3,a4⟩,a5,a6⟩:=ha
 obtain⟨⟨b1,b2⟩,⟨b3,b4⟩,b5,b6⟩:=hb
 unfold za1 sub
 rw[da1 (by omega) (by omega),da1 (by omega) (by omega),da1 (by omega) (by omega)]
 exact⟨rfl,⟨by show _≤a.x - b.x;omega,by show a.x - b.x≤_;omega⟩,⟨by show _≤a.y - b.y;omega,by show a.y - b.y≤_;omega⟩,⟨by show _≤a.z - b.z;omega,by show a.z - b.z≤_;omega⟩⟩
theorem rb1 {a b c : V3} (ha : inV a = true) (hb : inV b = true) (hc : inV c = true) :
  Aa9 (za1 b a) (za1 c a)=o5 (sub b a) (sub c a)∧Sm 4608 (o5 (sub b a) (sub c a)).x∧Sm 4608 (o5 (sub b a) (sub c a)).y∧Sm 4608 (o5 (sub b a) (sub c a)).z:=by
 obtain⟨e1,⟨u1,u2⟩,⟨u3,u4⟩,u5,u6⟩:=Lc9 hb ha
 obtain⟨e2,⟨v1,v2⟩,⟨v3,v4⟩,v5,v6⟩:=Lc9 hc ha
 rw[e1,e2,kd3]
 generalize sub b a=p at *
 generalize sub c a=q at *
 have h1:=mb u3 u4 v5 v6;have h2:=mb u5 u6 v3 v4;have h3:=mb u5 u6 v1 v2;have h4:=mb u1 u2 v5 v6;have h5:=mb u1 u2 v3 v4;have h6:=mb u3 u4 v1 v2
 have k:Sm 4608 (o5 p q).x∧Sm 4608 (o5 p q).y∧Sm 4608 (o5 p q).z:=by unfold Sm o5;simp only;omega
 obtain⟨k1,k2,k3⟩:=k
 rw[Va6 (k1.mono (by omega)),Va6 (k2.mono (by omega)),Va6 (k3.mono (by omega))]
 exact⟨rfl,k1,k2,k3⟩
def ub5 (a b c:V3):Pln×Bool :=
 if inV a&&(inV b&&inV c) then
  if g3 (o5 (sub b a) (sub c a))=0 then (⟨⟨0,0,0⟩,0⟩,false)
  else (⟨⟨Int.tdiv (o5 (sub b a) (sub c a)).x (g3 (o5 (sub b a) (sub c a))),Int.tdiv (o5 (sub b a) (sub c a)).y (g3 (o5 (sub b a) (sub c a))),Int.tdiv (o5 (sub b a) (sub c a)).z (g3 (o5 (sub b a) (sub c a)))⟩,
   dot ⟨Int.tdiv (o5 (sub b a) (sub c a)).x (g3 (o5 (sub b a) (sub c a))),Int.tdiv (o5 (sub b a) (sub c a)).y (g3 (o5 (sub b a) (sub c a))),Int.tdiv (o5 (sub b a) (sub c a)).z (g3 (o5 (sub b a) (sub c a)))⟩ a⟩,true)
 else (⟨⟨0,0,0⟩,0⟩,false)
theorem Gb7 (v:V3):0≤g3 v:=by unfold g3;omega
theorem Wb2 (a c d:V3):qa1 a c d=some (.tup [.agg (tP.row (ub5 a c d).1),b (ub5 a c d).2],[]):=by
 unfold qa1 ub5
 simp only[Bd7,Bd8]
 cases ha:inV a with
 | false=>rfl
 | true =>
  cases hc:inV c with
  | false=>rfl
  | true =>
   cases hd:inV d with
   | false=>rfl
   | true =>
    obtain⟨e,k1,k2,k3⟩:=rb1 ha hc hd
    rw[e]
    generalize o5 (sub c a) (sub d a)=n at *
    have m1:=k1.mono (m:=1000000000000000000) (by omega)
    have m2:=k2.mono (m:=1000000000000000000) (by omega)
    have m3:=k3.mono (m:=1000000000000000000) (by omega)
    rw[ud9 m1 m2 m3,Gc6 m1 m2 m3]
    by_cases h0:g3 n=0
    ·rw[show (g3 n==0)=true from by rw[h0];rfl]
     simp only[Bool.and_self,if_true,h0]
     rfl
    ·have hp:=Gb7 n
     have q1:=L7 (g:=g3 n) k1 (by omega)
     have q2:=L7 (g:=g3 n) k2 (by omega)
     have q3:=L7 (g:=g3 n) k3 (by omega)
     rw[show (g3 n==0)=false from by rw[beq_eq_false_iff_ne];exact h0,ud8 m1 m2 m3 h0]
     simp only[Bool.and_self,if_true,h0,if_false]
     rw[Va6 (q1.mono (by omega)),Va6 (q2.mono (by omega)),Va6 (q3.mono (by omega))]
     have hdot:nb9 ⟨Int.tdiv n.x (g3 n),Int.tdiv n.y (g3 n),Int.tdiv n.z (g3 n)⟩ a=dot ⟨Int.tdiv n.x (g3 n),Int.tdiv n.y (g3 n),Int.tdiv n.z (g3 n)⟩ a:=by
      unfold nb9
      simp only[hb8,Sb5]
      obtain⟨⟨a1,a2⟩,⟨a3,a4⟩,a5,a6⟩:=(ob5 a).1 ha
      have r1:=mb q1.1 q1.2 a1 a2;have r2:=mb q2.1 q2.2 a3 a4;have r3:=mb q3.1 q3.2 a5 a6
      rw[da1 (by omega) (by omega)]
      rfl
     rw[hdot]
     rfl
theorem gc9 (a b c:V3):Aa0 a b c=ub5 a b c:=by unfold Aa0;rw[Wb2];rfl
theorem hc3 (a b c:V3):Aa1 a b c=true:=by unfold Aa1;rw[Wb2];rfl
theorem ld9 (l:List Int):Rd (one r1P) (sa1 l) (fun _=>True):=by
 unfold sa1
 simp only[E5,G3]
 obtain⟨v1,j1,e1,a1,b1,c1,d1⟩:=ab7 8 l 0 (by omega) (by omega) (by omega) (by omega)
 rw[e1]
 simp only
 obtain⟨v2,j2,e2,a2,b2,c2,d2⟩:=ab7 17 l j1 (by omega) (by omega) (by omega) (by omega)
 rw[e2]
 simp only
 obtain⟨x1,x2,x3,j3,e3,_,_,_,c3,d3⟩:=Gb6 8 l j2 (by omega) (by omega) (by omega) (by omega)
 rw[e3]
 simp only
 obtain⟨y1,y2,y3,j4,e4,_,_,_,c4,d4⟩:=Gb6 8 l j3 (by omega) (by omega) (by omega) (by omega)
 rw[e4]
 simp only
 obtain⟨z1,z2,z3,j5,e5,_,_,_,c5,d5⟩:=Gb6 8 l j4 (by omega) (by omega) (by omega) (by omega)
 rw[e5]
 simp only[gc9,hc3,bd5 _ (show (0:Int) < 3 by omega) (by omega),G3]
 simp only[Nat.beq_refl,Bool.and_true,L2]
 refine Rd.sl (fun _=>Rd.sl (fun _=>⟨_,_,rfl,rfl,trivial⟩) fun _=>?_) (fun _=>?_)
 ·exact Rd.sl (fun _=>⟨_,_,rfl,rfl,trivial⟩) fun _=>Rd.sl (fun _=>⟨_,_,rfl,rfl,trivial⟩) fun _=>⟨_,_,rfl,rfl,trivial⟩
 ·exact Rd.sl (fun _=>⟨_,_,rfl,rfl,trivial⟩) fun _=>Rd.sl (fun _=>⟨_,_,rfl,rfl,trivial⟩) fun _=>⟨_,_,rfl,rfl,trivial⟩
theorem md0 (l:List Int):ab3 l=true:=(ld9 l).g
theorem cd0 (l:List Pln) (x1 x2 x3 x4:Int):app (bL tP l) [[i x1,i x2,i x3,i x4]]=bL tP (l++[⟨⟨x1,x2,x3⟩,x4⟩]):=Ya4 tP l [⟨⟨x1,x2,x3⟩,x4⟩]
def Id8 (x:List Pln) (y:Pln) (n:Nat):List Pln:=x.take n++(y::x.drop n)
end Go.Ev.Ce
namespace Go.Ev.Ce
open Go Go.Ev Go.Ev.L Go.Proofs
structure Fc (ph:Nat) (out:List Pln) (m:Nat):Prop where
 h:(ph=0∧out=[])∨ph=1
 l:out.length≤m
theorem Fc.more {ph m m':Nat} {out:List Pln} (h:Fc ph out m) (hm:m≤m'):Fc ph out m':=⟨h.h,Nat.le_trans h.l hm⟩
end Go.Ev.Ce
namespace Go.Ev.Ce
open Go Go.Ev Go.Ev.L Go.Proofs
theorem Ob2 {l:List Pln} {k:Nat} (h:k < l.length):ldR tP (bL tP l) (0+k)=true:=by rw[Nat.zero_add];exact Ec2 tP h
theorem Bb5 {l:List Pln} {k:Nat} (h:k < l.length):rdR tP (bL tP l) (0+k)=gL tP l k:=by rw[Nat.zero_add];exact Ec1 tP h
theorem vd5 {l:List Pln} {n:Nat} {r:List (List a7)} {P:List Pln→Prop} (hn:n≤l.length) (hr:r=bL tP l) (h:P (l.take n)):Rd (one (r1L tP)) (some (.sl 0 0 n 0,[⟨42,4,r,true,false,0⟩])) P:=by
 subst hr
 have e1:slR tP (bL tP l) 0 n=l.take n:=Sb2 tP (by rw[List.length_take];omega) fun k hk=>by
  rw[Nat.zero_add,ia2 tP (by omega)]
  congr 1
  simp[gL,List.getD_eq_getElem?_getD,List.getElem?_take,hk]
 have e2:okS tP (bL tP l) 0 n=true:=tb0 tP (f:=fun k=>gL tP l k) fun k hk=>by rw[Nat.zero_add,ia2 tP (by omega)]
 refine⟨_,l.take n,rfl,?_,h⟩
 show Bool.rec (motive:=fun _=>Option (List Pln)) none (some (slR tP (bL tP l) 0 n)) (Bool.and true (okS tP (bL tP l) 0 n))=_
 rw[e1,e2]
 rfl
end Go.Ev.Ce
section
namespace Go.Ev.Ce
open Go Go.Ev Go.Ev.L Go.Proofs
set_option maxRecDepth 100000
structure Aa2 where
 ma3:Int
 ma4:Int
 ma5:Int
 Ma7:Int
 i6:List Pt
noncomputable def kb8:List (Nat×Sum):=[(32,Qa4)]
theorem Mb0:m9 prog G kb8:=⟨Za4,trivial⟩
structure ha4 where
 Nc7:List Pt
 is8:Int
 i6:List Pt
 Q0:Int
 Q1:Int
 Q3:Int
 Q4:Int
structure J8 where
 is4:Int
 is9:Int
noncomputable def Gb8 (p:ha4) (s:J8):St:=⟨(.unk::(.unk::((.ptr 1 0 0 0)::(.unk::((i s.is4)::(.unk::(.unk::((eL tX p.Nc7)::((i p.is8)::((i s.is9)::(ra 12 []))))))))))),[⟨0,1,[[(eL tX p.i6)]],true,false,0⟩,⟨0,4,[[(i p.Q0),(i p.Q1),(i p.Q3),(i p.Q4)]],true,false,0⟩]⟩
noncomputable def ba2 {α:Type} (k:J8→α) (e:Nat→α) (z:α) (p:ha4) (s:J8):α:=let t1:=(fa5 (⟨(⟨p.Q0,p.Q1,p.Q3⟩:V3),p.Q4⟩:Pln) (gL tX p.Nc7 s.is9.toNat));(sl (decide (s.is9 < p.is8)) (sl (inB s.is9 (List.length p.Nc7)) (sl (t1==0) (k ⟨(W (s.is4+1)),(W (s.is9+1))⟩) (k ⟨s.is4,(W (s.is9+1))⟩)) z) (e 1))
noncomputable def ea8 (p:ha4) (s:J8):Stp J8:=ba2 .next .exit .fail p s
noncomputable def Ea9:Lo ha4 J8:=⟨En kb8,1,Ad2,[1,1,0,1,4,4],[2,4,7,8,9],.p,[⟨((.s (.o .unk))::((.s (.o .unk))::((.s (.o (.ptr 1 0 0 0)))::((.s (.o .unk))::((.s (.o (.int .i64)))::((.s (.o .unk))::((.s (.o .unk))::((.s (.c 4 (nL tX)))::((.s (.o (.int .i64)))::((.s (.o (.int .i64)))::(ru2 12 []))))))))))),[⟨0,1,true,(some [[(.c 4 (nL tX))]])⟩,⟨0,4,true,(some [[(.o (.int .i64)),(.o (.int .i64)),(.o (.int .i64)),(.o (.int .i64))]])⟩],fun a H=>(⟨(rL tX (slT a 7)),(toI (slT a 8)),(rL tX (slT (rwT (elT H 0) 0) 0)),(toI (slT (rwT (elT H 1) 0) 0)),(toI (slT (rwT (elT H 1) 0) 1)),(toI (slT (rwT (elT H 1) 0) 2)),(toI (slT (rwT (elT H 1) 0) 3))⟩,⟨(toI (slT a 4)),(toI (slT a 9))⟩)⟩],ea8,[(some 0,fun p s=>⟨(.unk::(.unk::((.ptr 1 0 0 0)::(.unk::((i s.is4)::(.unk::(.unk::((eL tX p.Nc7)::((i p.is8)::((i s.is9)::((b (decide (s.is9 < p.is8)))::(ra 11 [])))))))))))),[⟨0,1,[[(eL tX p.i6)]],true,false,0⟩,⟨0,4,[[(i p.Q0),(i p.Q1),(i p.Q3),(i p.Q4)]],true,false,0⟩]⟩)],Gb8⟩
theorem Gb9:Ea9.Ok:=Lo.ok [] (by kernel_rfl) .nil rfl (.cons (fun a H=>by kernel_rfl) .nil) fun p s=>(.of @ba2 (fun F _ _ _ _ _=>by unfold ba2;(repeat' apply A4 (f:=F))<;>rfl) (by kernel_rfl))
structure ia5 where
 alt:Nat
 bs0:Bool
 i6:List Pt
noncomputable def ia6 {α:Type} (kk:ia5→α) (x:Aa2):α:=let t1:=(lp (ea8 (⟨(rt tX x.i6),(↑(List.length x.i6):Int),(rt tX x.i6),x.ma3,x.ma4,x.ma5,x.Ma7⟩:ha4)) (⟨0,0⟩:J8));(sl ((cnE tX x.i6)&&((cnE tX x.i6)&&true)) (sl (Nat.beq t1.1 1) (kk ⟨1,(decide (t1.2.is4 < 3)),(rt tX x.i6)⟩) (kk ⟨0,false,[]⟩)) (kk ⟨0,false,[]⟩))
noncomputable def ba9 (x:Aa2):ia5:=ia6 (fun r=>r) x
noncomputable def La5 (x:Aa2) (r:ia5):DT (a7×List a8):=(.ite (Nat.beq r.alt 1) (.ret ((b r.bs0),[⟨0,1,[[(eL tX r.i6)]],true,false,0⟩])) .fail)
theorem bc1 {α β:Type} (F:α→β) (kk:ia5→α) (x:Aa2):F (ia6 kk x)=ia6 (fun r=>F (kk r)) x:=by unfold ia6;(repeat' apply A4 (f:=F))<;>rfl
noncomputable def Ta2:Sum:=Ja9 ⟨[(.agg [(.o (.int .i64)),(.o (.int .i64)),(.o (.int .i64)),(.o (.int .i64))]),(.s (.o (.ptr 0 0 0 0)))],[⟨0,1,true,(some [[(.c 4 (nL tX))]])⟩],fun a H=>(⟨(toI (slT (cellsOf (slT a 0)) 0)),(toI (slT (cellsOf (slT a 0)) 1)),(toI (slT (cellsOf (slT a 0)) 2)),(toI (slT (cellsOf (slT a 0)) 3)),(rL tX (slT (rwT (elT H 0) 0) 0))⟩,())⟩ (fun x=>La5 x (ba9 x))
theorem kb9:i7 prog G 31 Ta2:=M5 (enc:=fun x=>⟨[(.agg [(i x.ma3),(i x.ma4),(i x.ma5),(i x.Ma7)]),(.ptr 0 0 0 0)],[⟨0,1,[[(eL tX x.i6)]],true,false,0⟩]⟩) (fun a H=>by kernel_rfl) (bd b31 Mb0) fun x=>db0 (.s .p (.s .p (.s (.s .p (.b (.u Ea9.ls))) .p))) [Ea9.pr] (by kernel_rfl) (.cons Gb9 .nil) (Eq.trans (b:=ia6 (fun r=>(La5 x r).run) x) (by kernel_rfl) (bc1 (fun r=>(La5 x r).run) (fun r=>r) x).symm)
structure N5 where
 ns0:Nat
 eh0:List (List a7)
 p5:List Pt
noncomputable def la7:List (Nat×Sum):=[(31,Ta2)]
theorem Ha7:m9 prog G la7:=⟨kb9,trivial⟩
structure F7 where
 ns0:Nat
 is7:Int
 eh0:List (List a7)
structure l7 where
 is8:Int
 p5:List Pt
noncomputable def Fa0 (p:F7) (s:l7):St:=⟨((.sl 0 0 p.ns0 0)::((.fn 31 [(.ptr 1 0 0 0)])::(ra 5 ((i p.is7)::((i s.is8)::(ra 10 [])))))),[⟨42,4,p.eh0,true,false,0⟩,⟨0,1,[[(eL tX s.p5)]],true,false,0⟩]⟩
noncomputable def B4 {α:Type} (k:l7→α) (e:Nat→α) (z:α) (p:F7) (s:l7):α:=let t1:=(ba9 ⟨(rdR tP p.eh0 (0+s.is8.toNat)).n.x,(rdR tP p.eh0 (0+s.is8.toNat)).n.y,(rdR tP p.eh0 (0+s.is8.toNat)).n.z,(rdR tP p.eh0 (0+s.is8.toNat)).b,(rt tX s.p5)⟩);(sl (decide (s.is8 < p.is7)) (sl (inB s.is8 p.ns0) (sl (ldR tP p.eh0 (0+s.is8.toNat)) (sl ((cnE tX s.p5)&&true) (sl (Nat.beq t1.alt 1) (sl t1.bs0 (e 1) (k ⟨(W (s.is8+1)),t1.i6⟩)) z) z) z) z) (e 2))
noncomputable def D9 (p:F7) (s:l7):Stp l7:=B4 .next .exit .fail p s
noncomputable def V0:Lo F7 l7:=⟨En la7,2,kd2,[1,0,1,4,4],[0,1,7,8],.p,[⟨((.s (.o (.sl 0 0 (some 0) none)))::((.fn 31 [(.o (.ptr 1 0 0 0))])::(ru2 5 ((.s (.o (.int .i64)))::((.s (.o (.int .i64)))::(ru2 10 [])))))),[⟨42,4,true,none⟩,⟨0,1,true,(some [[(.c 4 (nL tX))]])⟩],fun a H=>(⟨(slN (slT a 0)),(toI (slT a 7)),(elT H 0)⟩,⟨(toI (slT a 8)),(rL tX (slT (rwT (elT H 1) 0) 0))⟩)⟩],D9,[(none,fun p s=>let t1:=(ba9 ⟨(rdR tP p.eh0 (0+s.is8.toNat)).n.x,(rdR tP p.eh0 (0+s.is8.toNat)).n.y,(rdR tP p.eh0 (0+s.is8.toNat)).n.z,(rdR tP p.eh0 (0+s.is8.toNat)).b,(rt tX s.p5)⟩);⟨[(i s.is8)],[⟨42,4,p.eh0,true,false,0⟩,⟨0,1,[[(eL tX t1.i6)]],true,false,0⟩]⟩),(some 0,fun p s=>⟨((.sl 0 0 p.ns0 0)::((.fn 31 [(.ptr 1 0 0 0)])::(ra 5 ((i p.is7)::((i s.is8)::((b (decide (s.is8 < p.is7)))::(ra 9 []))))))),[⟨42,4,p.eh0,true,false,0⟩,⟨0,1,[[(eL tX s.p5)]],true,false,0⟩]⟩)],Fa0⟩
theorem Fa1:V0.Ok:=Lo.ok [] (by kernel_rfl) .nil rfl (.cons (fun a H=>by kernel_rfl) .nil) fun p s=>(.of @B4 (fun F _ _ _ _ _=>by unfold B4;(repeat' apply A4 (f:=F))<;>rfl) (by kernel_rfl))
structure N6 where
 alt:Nat
 is0:Int
 p5:List Pt
noncomputable def C5 {α:Type} (kk:N6→α) (x:N5):α:=let t1:=(lp (D9 (⟨x.ns0,(↑x.ns0:Int),x.eh0⟩:F7)) (⟨0,(rt tX x.p5)⟩:l7));let t2:=(ba9 ⟨(rdR tP x.eh0 (0+t1.2.is8.toNat)).n.x,(rdR tP x.eh0 (0+t1.2.is8.toNat)).n.y,(rdR tP x.eh0 (0+t1.2.is8.toNat)).n.z,(rdR tP x.eh0 (0+t1.2.is8.toNat)).b,(rt tX t1.2.p5)⟩);(sl ((cnE tX x.p5)&&true) (sl (Nat.beq t1.1 1) (kk ⟨1,t1.2.is8,t2.i6⟩) (sl (Nat.beq t1.1 2) (kk ⟨1,(-1),t1.2.p5⟩) (kk ⟨0,0,[]⟩))) (kk ⟨0,0,[]⟩))
noncomputable def N7 (x:N5):N6:=C5 (fun r=>r) x
noncomputable def Y1 (x:N5) (r:N6):DT (a7×List a8):=(.ite (Nat.beq r.alt 1) (.ret ((i r.is0),[⟨42,4,x.eh0,true,false,0⟩,⟨0,1,[[(eL tX r.p5)]],true,false,0⟩])) .fail)
theorem Oa2 {α β:Type} (F:α→β) (kk:N6→α) (x:N5):F (C5 kk x)=C5 (fun r=>F (kk r)) x:=by unfold C5;(repeat' apply A4 (f:=F))<;>rfl
noncomputable def oa0:Sum:=Ja9 ⟨[(.s (.o (.sl 0 0 (some 0) none))),(.fn 31 [(.o (.ptr 1 0 0 0))])],[⟨42,4,true,none⟩,⟨0,1,true,(some [[(.c 4 (nL tX))]])⟩],fun a H=>(⟨(slN (slT a 0)),(elT H 0),(rL tX (slT (rwT (elT H 1) 0) 0))⟩,())⟩ (fun x=>Y1 x (N7 x))
theorem La6:i7 prog G 55 oa0:=M5 (enc:=fun x=>⟨[(.sl 0 0 x.ns0 0),(.fn 31 [(.ptr 1 0 0 0)])],[⟨42,4,x.eh0,true,false,0⟩,⟨0,1,[[(eL tX x.p5)]],true,false,0⟩]⟩) (fun a H=>by kernel_rfl) (bd b55 Ha7) fun x=>db0 (.s .p (.s (.s .p (.b (.u V0.ls))) .p)) [V0.pr] (by kernel_rfl) (.cons Fa1 .nil) (Eq.trans (b:=C5 (fun r=>(Y1 x r).run) x) (by kernel_rfl) (Oa2 (fun r=>(Y1 x r).run) (fun r=>r) x).symm)
structure N8 where
 ns0:Nat
 eh0:List (List a7)
 p5:List Pt
noncomputable def la8:List (Nat×Sum):=[(55,oa0),(31,Ta2)]
theorem Ha8:m9 prog G la8:=⟨La6,kb9,trivial⟩
structure F8 where
 ns0:Nat
structure o6 where
 is5:Int
 is6:Int
 eh0:List (List a7)
 p5:List Pt
noncomputable def Fa2 (p:F8) (s:o6):St:=⟨((.sl 0 0 p.ns0 0)::((.fn 31 [(.ptr 1 0 0 0)])::(ra 3 ((i s.is5)::((i s.is6)::(ra 35 [])))))),[⟨42,4,s.eh0,true,false,0⟩,⟨0,1,[[(eL tX s.p5)]],true,false,0⟩]⟩
noncomputable def B5 {α:Type} (k:o6→α) (e:Nat→α) (z:α) (p:F8) (s:o6):α:=let t1:=(ba9 ⟨(rdR tP s.eh0 (0+s.is6.toNat)).n.x,(rdR tP s.eh0 (0+s.is6.toNat)).n.y,(rdR tP s.eh0 (0+s.is6.toNat)).n.z,(rdR tP s.eh0 (0+s.is6.toNat)).b,(rt tX s.p5)⟩);(sl (decide (s.is6 < (↑p.ns0:Int))) (sl (inB s.is6 p.ns0) (sl (ldR tP s.eh0 (0+s.is6.toNat)) (sl ((cnE tX s.p5)&&true) (sl (Nat.beq t1.alt 1) (sl (!t1.bs0) (sl (inB s.is5 p.ns0) (sl ((Nat.blt (0+s.is5.toNat) (len s.eh0))&&(Nat.ble (0+4) (len (s5 s.eh0 (0+s.is5.toNat))))) (k ⟨(W (s.is5+1)),(W (s.is6+1)),(setAt s.eh0 (0+s.is5.toNat) (ca7 (s5 s.eh0 (0+s.is5.toNat)) 0 [(i (rdR tP s.eh0 (0+s.is6.toNat)).n.x),(i (rdR tP s.eh0 (0+s.is6.toNat)).n.y),(i (rdR tP s.eh0 (0+s.is6.toNat)).n.z),(i (rdR tP s.eh0 (0+s.is6.toNat)).b)])),t1.i6⟩) z) z) (k ⟨s.is5,(W (s.is6+1)),s.eh0,t1.i6⟩)) z) z) z) z) (e 1))
noncomputable def y9 (p:F8) (s:o6):Stp o6:=B5 .next .exit .fail p s
noncomputable def V1:Lo F8 o6:=⟨En la8,2,Ad1,[1,1,1,0,1,4,4],[0,1,5,6],.p,[⟨((.s (.o (.sl 0 0 (some 0) none)))::((.fn 31 [(.o (.ptr 1 0 0 0))])::(ru2 3 ((.s (.o (.int .i64)))::((.s (.o (.int .i64)))::(ru2 35 [])))))),[⟨42,4,true,none⟩,⟨0,1,true,(some [[(.c 4 (nL tX))]])⟩],fun a H=>(⟨(slN (slT a 0))⟩,⟨(toI (slT a 5)),(toI (slT a 6)),(elT H 0),(rL tX (slT (rwT (elT H 1) 0) 0))⟩)⟩],y9,[(some 0,fun p s=>⟨((.sl 0 0 p.ns0 0)::((.fn 31 [(.ptr 1 0 0 0)])::(ra 3 ((i s.is5)::((i s.is6)::(ra 9 ((i s.is6)::((.sl 0 0 p.ns0 0)::((i (↑p.ns0:Int))::((b (decide (s.is6 < (↑p.ns0:Int))))::(ra 22 []))))))))))),[⟨42,4,s.eh0,true,false,0⟩,⟨0,1,[[(eL tX s.p5)]],true,false,0⟩]⟩)],Fa2⟩
theorem Fa3:V1.Ok:=Lo.ok [] (by kernel_rfl) .nil rfl (.cons (fun a H=>by kernel_rfl) .nil) fun p s=>(.of @B5 (fun F _ _ _ _ _=>by unfold B5;(repeat' apply A4 (f:=F))<;>rfl) (by kernel_rfl))
structure N9 where
 alt:Nat
 ns0:Nat
 eh0:List (List a7)
 p5:List Pt
noncomputable def C6 {α:Type} (kk:N9→α) (x:N8):α:=let t1:=(N7 ⟨x.ns0,x.eh0,(rt tX x.p5)⟩);let t2:=(lp (y9 (⟨x.ns0⟩:F8)) (⟨t1.is0,(W (t1.is0+1)),x.eh0,(rt tX t1.p5)⟩:o6));(sl ((cnE tX x.p5)&&true) (sl (Nat.beq t1.alt 1) (sl (t1.is0==(-1)) (kk ⟨1,x.ns0,x.eh0,t1.p5⟩) (sl ((cnE tX t1.p5)&&true) (sl (Nat.beq t2.1 1) (sl (inB t2.2.is5 (x.ns0+1)) (sl (inB t2.2.is5 (x.ns0+1)) (kk ⟨1,(t2.2.is5.toNat - 0),(app (G0 t2.2.eh0 (0+t2.2.is5.toNat)) (app (List.replicate (x.ns0 - t2.2.is5.toNat) [(i 0),(i 0),(i 0),(i 0)]) (j8 t2.2.eh0 ((0+t2.2.is5.toNat)+(x.ns0 - t2.2.is5.toNat))))),t2.2.p5⟩) (kk ⟨0,0,[],[]⟩)) (kk ⟨0,0,[],[]⟩)) (kk ⟨0,0,[],[]⟩)) (kk ⟨0,0,[],[]⟩))) (kk ⟨0,0,[],[]⟩)) (kk ⟨0,0,[],[]⟩))
noncomputable def O0 (x:N8):N9:=C6 (fun r=>r) x
noncomputable def Y2 (x:N8) (r:N9):DT (a7×List a8):=(.ite (Nat.beq r.alt 1) (.ret ((.sl 0 0 r.ns0 0),[⟨42,4,r.eh0,true,false,0⟩,⟨0,1,[[(eL tX r.p5)]],true,false,0⟩])) .fail)
theorem Oa3 {α β:Type} (F:α→β) (kk:N9→α) (x:N8):F (C6 kk x)=C6 (fun r=>F (kk r)) x:=by unfold C6;(repeat' apply A4 (f:=F))<;>rfl
noncomputable def oa1:Sum:=Ja9 ⟨[(.s (.o (.sl 0 0 (some 0) none))),(.fn 31 [(.o (.ptr 1 0 0 0))])],[⟨42,4,true,none⟩,⟨0,1,true,(some [[(.c 4 (nL tX))]])⟩],fun a H=>(⟨(slN (slT a 0)),(elT H 0),(rL tX (slT (rwT (elT H 1) 0) 0))⟩,())⟩ (fun x=>Y2 x (O0 x))
theorem La7:i7 prog G 29 oa1:=M5 (enc:=fun x=>⟨[(.sl 0 0 x.ns0 0),(.fn 31 [(.ptr 1 0 0 0)])],[⟨42,4,x.eh0,true,false,0⟩,⟨0,1,[[(eL tX x.p5)]],true,false,0⟩]⟩) (fun a H=>by kernel_rfl) (bd b29 Ha8) fun x=>db0 (.s .p (.s .p (.s .p (.s (.s .p (.b (.u V1.ls))) .p)))) [V1.pr] (by kernel_rfl) (.cons Fa3 .nil) (Eq.trans (b:=C6 (fun r=>(Y2 x r).run) x) (by kernel_rfl) (Oa3 (fun r=>(Y2 x r).run) (fun r=>r) x).symm)
structure V2 where
 ns0:Nat
 eh0:List (List a7)
noncomputable def ea9:List (Nat×Sum):=[]
theorem Ta3:m9 prog G ea9:=trivial
structure A0 where
 ns0:Nat
 os4:Nat
 ns4:Nat
structure m8 where
 is3:Int
 is5:Int
 eh0:List (List a7)
noncomputable def Oa4 (p:A0) (s:m8):St:=⟨((.sl 0 0 p.ns0 0)::(.unk::(.unk::((i s.is3)::((.sl 0 p.os4 p.ns4 0)::((i s.is5)::(ra 55 []))))))),[⟨42,4,s.eh0,true,false,0⟩]⟩
noncomputable def G5 {α:Type} (k:m8→α) (e:Nat→α) (z:α) (p:A0) (s:m8):α:=(sl (decide (s.is5 < (↑p.ns4:Int))) (sl (inB s.is5 p.ns4) (sl (ldR tP s.eh0 (p.os4+s.is5.toNat)) (sl (inB (W (s.is5 - 1)) p.ns4) (sl (ldR tP s.eh0 (p.os4+(W (s.is5 - 1)).toNat)) (sl (!(((rdR tP s.eh0 (p.os4+s.is5.toNat)).n.x==(rdR tP s.eh0 (p.os4+(W (s.is5 - 1)).toNat)).n.x)&&(((rdR tP s.eh0 (p.os4+s.is5.toNat)).n.y==(rdR tP s.eh0 (p.os4+(W (s.is5 - 1)).toNat)).n.y)&&(((rdR tP s.eh0 (p.os4+s.is5.toNat)).n.z==(rdR tP s.eh0 (p.os4+(W (s.is5 - 1)).toNat)).n.z)&&(((rdR tP s.eh0 (p.os4+s.is5.toNat)).b==(rdR tP s.eh0 (p.os4+(W (s.is5 - 1)).toNat)).b)&&true))))) (sl (inB s.is5 p.ns4) (sl (ldR tP s.eh0 (p.os4+s.is5.toNat)) (sl (inB s.is3 p.ns0) (sl ((Nat.blt (0+s.is3.toNat) (len s.eh0))&&(Nat.ble (0+4) (len (s5 s.eh0 (0+s.is3.toNat))))) (k ⟨(W (s.is3+1)),(W (s.is5+1)),(setAt s.eh0 (0+s.is3.toNat) (ca7 (s5 s.eh0 (0+s.is3.toNat)) 0 [(i (rdR tP s.eh0 (p.os4+s.is5.toNat)).n.x),(i (rdR tP s.eh0 (p.os4+s.is5.toNat)).n.y),(i (rdR tP s.eh0 (p.os4+s.is5.toNat)).n.z),(i (rdR tP s.eh0 (p.os4+s.is5.toNat)).b)]))⟩) z) z) z) z) (k ⟨s.is3,(W (s.is5+1)),s.eh0⟩)) z) z) z) z) (e 1))
noncomputable def o3 (p:A0) (s:m8):Stp m8:=G5 .next .exit .fail p s
noncomputable def ca0:Lo A0 m8:=⟨En ea9,1,td8,[1,1,0,1,4,4,1,0,4,1,2,1,0,1,4,4],[0,3,4,5],.p,[⟨((.s (.o (.sl 0 0 (some 0) none)))::((.s (.o .unk))::((.s (.o .unk))::((.s (.o (.int .i64)))::((.s (.o (.sl 0 0 none none)))::((.s (.o (.int .i64)))::(ru2 55 []))))))),[⟨42,4,true,none⟩],fun a H=>(⟨(slN (slT a 0)),(slO (slT a 4)),(slN (slT a 4))⟩,⟨(toI (slT a 3)),(toI (slT a 5)),(elT H 0)⟩)⟩],o3,[(some 2,fun p s=>⟨((.sl 0 0 p.ns0 0)::(.unk::(.unk::((i s.is3)::((.sl 0 p.os4 p.ns4 0)::((i s.is5)::(ra 23 ((i s.is5)::((.sl 0 p.os4 p.ns4 0)::((i (↑p.ns4:Int))::((b (decide (s.is5 < (↑p.ns4:Int))))::(ra 28 [])))))))))))),[⟨42,4,s.eh0,true,false,0⟩]⟩)],Oa4⟩
theorem Oa5:ca0.Ok:=Lo.ok [] (by kernel_rfl) .nil rfl (.cons (fun a H=>by kernel_rfl) .nil) fun p s=>(.of @G5 (fun F _ _ _ _ _=>by unfold G5;(repeat' apply A4 (f:=F))<;>rfl) (by kernel_rfl))
structure I7 where
 ns0:Nat
 eh0:List (List a7)
structure o7 where
 is3:Int
noncomputable def Oa6 (p:I7) (s:o7):St:=⟨((.sl 0 0 p.ns0 0)::(.unk::(.unk::((i s.is3)::(ra 57 []))))),[⟨42,4,p.eh0,true,false,0⟩]⟩
noncomputable def G6 {α:Type} (k:o7→α) (e:Nat→α) (z:α) (p:I7) (s:o7):α:=let t1:=(lp (o3 (⟨p.ns0,(0+s.is3.toNat),(p.ns0 - s.is3.toNat)⟩:A0)) (⟨s.is3,1,p.eh0⟩:m8));(sl (decide (s.is3 < (↑p.ns0:Int))) (sl (inB s.is3 p.ns0) (sl (ldR tP p.eh0 (0+s.is3.toNat)) (sl (inB (W (s.is3 - 1)) p.ns0) (sl (ldR tP p.eh0 (0+(W (s.is3 - 1)).toNat)) (sl (((rdR tP p.eh0 (0+s.is3.toNat)).n.x==(rdR tP p.eh0 (0+(W (s.is3 - 1)).toNat)).n.x)&&(((rdR tP p.eh0 (0+s.is3.toNat)).n.y==(rdR tP p.eh0 (0+(W (s.is3 - 1)).toNat)).n.y)&&(((rdR tP p.eh0 (0+s.is3.toNat)).n.z==(rdR tP p.eh0 (0+(W (s.is3 - 1)).toNat)).n.z)&&(((rdR tP p.eh0 (0+s.is3.toNat)).b==(rdR tP p.eh0 (0+(W (s.is3 - 1)).toNat)).b)&&true)))) (sl (inB s.is3 (p.ns0+1)) (sl (Nat.beq t1.1 1) (sl (inB t1.2.is3 (p.ns0+1)) (sl (inB t1.2.is3 (p.ns0+1)) (e 1) z) z) z) z) (k ⟨(W (s.is3+1))⟩)) z) z) z) z) (e 2))
noncomputable def H7 (p:I7) (s:o7):Stp o7:=G6 .next .exit .fail p s
noncomputable def ca1:Lo I7 o7:=⟨En ea9,1,td8,[1,1,0,1,4,4],[0,3],(.s .p (.s (.b (.s .p (.c (.s .p (.s (.s .p (.b (.u ca0.ls))) .p)) .p))) .p)),[⟨((.s (.o (.sl 0 0 (some 0) none)))::((.s (.o .unk))::((.s (.o .unk))::((.s (.o (.int .i64)))::(ru2 57 []))))),[⟨42,4,true,none⟩],fun a H=>(⟨(slN (slT a 0)),(elT H 0)⟩,⟨(toI (slT a 3))⟩)⟩],H7,[(none,fun p s=>let t1:=(lp (o3 (⟨p.ns0,(0+s.is3.toNat),(p.ns0 - s.is3.toNat)⟩:A0)) (⟨s.is3,1,p.eh0⟩:m8));⟨[(.sl 0 0 (t1.2.is3.toNat - 0) 0)],[⟨42,4,(app (G0 t1.2.eh0 (0+t1.2.is3.toNat)) (app (List.replicate (p.ns0 - t1.2.is3.toNat) [(i 0),(i 0),(i 0),(i 0)]) (j8 t1.2.eh0 ((0+t1.2.is3.toNat)+(p.ns0 - t1.2.is3.toNat))))),true,false,0⟩]⟩),(some 0,fun p s=>⟨((.sl 0 0 p.ns0 0)::(.unk::(.unk::((i s.is3)::(ra 6 ((i s.is3)::((.sl 0 0 p.ns0 0)::((i (↑p.ns0:Int))::((b (decide (s.is3 < (↑p.ns0:Int))))::(ra 47 [])))))))))),[⟨42,4,p.eh0,true,false,0⟩]⟩)],Oa6⟩
theorem Oa7:ca1.Ok:=Lo.ok [ca0.pr] (by kernel_rfl) (.cons Oa5 .nil) rfl (.cons (fun a H=>by kernel_rfl) .nil) fun p s=>(.of @G6 (fun F _ _ _ _ _=>by unfold G6;(repeat' apply A4 (f:=F))<;>rfl) (by kernel_rfl))
structure V4 where
 alt:Nat
 ns0:Nat
 eh0:List (List a7)
noncomputable def H4 {α:Type} (kk:V4→α) (x:V2):α:=let t1:=(lp (H7 (⟨x.ns0,x.eh0⟩:I7)) (⟨1⟩:o7));let t2:=(lp (o3 (⟨x.ns0,(0+t1.2.is3.toNat),(x.ns0 - t1.2.is3.toNat)⟩:A0)) (⟨t1.2.is3,1,x.eh0⟩:m8));(sl (decide ((↑x.ns0:Int) < 2)) (kk ⟨1,x.ns0,x.eh0⟩) (sl (Nat.beq t1.1 1) (kk ⟨1,(t2.2.is3.toNat - 0),(app (G0 t2.2.eh0 (0+t2.2.is3.toNat)) (app (List.replicate (x.ns0 - t2.2.is3.toNat) [(i 0),(i 0),(i 0),(i 0)]) (j8 t2.2.eh0 ((0+t2.2.is3.toNat)+(x.ns0 - t2.2.is3.toNat)))))⟩) (sl (Nat.beq t1.1 2) (kk ⟨1,x.ns0,x.eh0⟩) (kk ⟨0,0,[]⟩))))
noncomputable def V5 (x:V2):V4:=H4 (fun r=>r) x
noncomputable def fa0 (x:V2) (r:V4):DT (a7×List a8):=(.ite (Nat.beq r.alt 1) (.ret ((.sl 0 0 r.ns0 0),[⟨42,4,r.eh0,true,false,0⟩])) .fail)
theorem ab8 {α β:Type} (F:α→β) (kk:V4→α) (x:V2):F (H4 kk x)=H4 (fun r=>F (kk r)) x:=by unfold H4;(repeat' apply A4 (f:=F))<;>rfl
noncomputable def va8:Sum:=Ja9 ⟨[(.s (.o (.sl 0 0 (some 0) none)))],[⟨42,4,true,none⟩],fun a H=>(⟨(slN (slT a 0)),(elT H 0)⟩,())⟩ (fun x=>fa0 x (V5 x))
theorem Wa3:i7 prog G 35 va8:=M5 (enc:=fun x=>⟨[(.sl 0 0 x.ns0 0)],[⟨42,4,x.eh0,true,false,0⟩]⟩) (fun a H=>by kernel_rfl) (bd b35 Ta3) fun x=>db0 (.s .p (.s .p (.s (.s .p (.b (.u ca1.ls))) .p))) [ca1.pr] (by kernel_rfl) (.cons Oa7 .nil) (Eq.trans (b:=H4 (fun r=>(fa0 x r).run) x) (by kernel_rfl) (ab8 (fun r=>(fa0 x r).run) (fun r=>r) x).symm)
noncomputable def Wb3:List (Nat×Sum):=[]
theorem Mb1:m9 prog G Wb3:=trivial
noncomputable def qa3 (x:Int) (y:Int):Option (a7×List a8):=(sl (decide (x < y)) (some ((i (-1)),[])) (sl (decide (x > y)) (some ((i 1),[])) (some ((i 0),[]))))
noncomputable def W5 (x:Int) (y:Int):Int:=fa4 (one r1I) (qa3 x y)
noncomputable def W6 (x:Int) (y:Int):Bool:=okO (one r1I) (qa3 x y)
noncomputable def Ta4:Sum:=pa0 cI cI (fun x y=>.guard (W6 x y) (.ret ((one r1I).enc (W5 x y),[])))
theorem lb0:i7 prog G 46 Ta4:=Eb4 (bd b46 Mb1) (one r1I) (o:=qa3) fun x y=>D2 (by kernel_rfl)
noncomputable def Hb0:List (Nat×Sum):=[(46,Ta4)]
theorem Bb6:m9 prog G Hb0:=⟨lb0,trivial⟩
noncomputable def ha5 (x:Pln) (y:Pln):Option (a7×List a8):=let t1:=(W5 x.n.x y.n.x);let t2:=(W5 x.n.y y.n.y);let t3:=(W5 x.n.z y.n.z);let t4:=(W5 x.b y.b);(sl (W6 x.n.x y.n.x) (sl (t1==0) (sl (W6 x.n.y y.n.y) (sl (t2==0) (sl (W6 x.n.z y.n.z) (sl (t3==0) (sl (W6 x.b y.b) (sl (t4==0) (some ((i t4),[])) (some ((i t4),[]))) none) (some ((i t3),[]))) none) (some ((i t2),[]))) none) (some ((i t1),[]))) none)
noncomputable def ra3 (x:Pln) (y:Pln):Int:=fa4 (one r1I) (ha5 x y)
noncomputable def ra4 (x:Pln) (y:Pln):Bool:=okO (one r1I) (ha5 x y)
noncomputable def Fa4:Sum:=pa0 (ja0 tP) (ja0 tP) (fun x y=>.guard (ra4 x y) (.ret ((one r1I).enc (ra3 x y),[])))
theorem Hb1:i7 prog G 34 Fa4:=Eb4 (bd b34 Bb6) (one r1I) (o:=ha5) fun x y=>D2 (by kernel_rfl)
noncomputable def yc9:List (Nat×Sum):=[(63,Ka8)]
theorem oc0:m9 prog G yc9:=⟨cb3,trivial⟩
noncomputable def La8 (x:V3):Option (a7×List a8):=let t1:=(da9 24 [x.x,x.y,x.z]);(sl (ea0 24 [x.x,x.y,x.z]) (some ((b t1),[])) none)
noncomputable def La9 (x:V3):Bool:=fa4 (one r1B) (La8 x)
noncomputable def Ma0 (x:V3):Bool:=okO (one r1B) (La8 x)
noncomputable def ub6:Sum:=ra8 (ja0 tV) (fun x=>.guard (Ma0 x) (.ret ((one r1B).enc (La9 x),[])))
theorem Jb4:i7 prog G 40 ub6:=Ua2 (bd b40 oc0) (one r1B) (o:=La8) fun x=>D2 (by kernel_rfl)
noncomputable def zc0:List (Nat×Sum):=[(26,na4),(40,ub6),(39,za8)]
theorem oc1:m9 prog G zc0:=⟨pa7,Jb4,Ka7,trivial⟩
noncomputable def Ma1 (x:List Pln) (y:V3):Option (a7×List a8):=let t1:=(T9 [(rt tP x)]);let t2:=(La9 y);let t3:=(P6 (rt tP x) (⟨y.x,y.y,y.z,1⟩:Pt));(sl ((okE tP x)&&true) (sl (U0 [(rt tP x)]) (sl t1 (sl (Ma0 y) (sl t2 (sl (okE tP x) (sl (P7 (rt tP x) (⟨y.x,y.y,y.z,1⟩:Pt)) (some ((b t3),[])) none) none) (some ((b false),[]))) none) (some ((b false),[]))) none) none)
noncomputable def sa3 (x:List Pln) (y:V3):Bool:=fa4 (one r1B) (Ma1 x y)
noncomputable def ga1 (x:List Pln) (y:V3):Bool:=okO (one r1B) (Ma1 x y)
noncomputable def ub7:Sum:=pa0 (Aa8 tP) (ja0 tV) (fun x y=>.guard (ga1 x y) (.ret ((one r1B).enc (sa3 x y),[])))
theorem Jb5:i7 prog G 14 ub7:=Eb4 (bd b14 oc1) (one r1B) (o:=Ma1) fun x y=>D2 (by kernel_rfl)
noncomputable def bc2:List (Nat×Sum):=[(26,na4),(27,ob0),(36,sa0)]
theorem Wb4:m9 prog G bc2:=⟨pa7,ub0,Fa9,trivial⟩
noncomputable def va9 (x:List Pln) (y:List Pln):Option (a7×List a8):=let t1:=(T9 [(rt tP x),(rt tP y)]);let t2:=(ya6 [(rt tP x),(rt tP y)]);let t3:=(X7 (rt tP t2));(sl ((okE tP x)&&((okE tP y)&&true)) (sl (U0 [(rt tP x),(rt tP y)]) (sl (!t1) (some ((b true),[])) (sl ((okE tP x)&&((okE tP y)&&true)) (sl (ya7 [(rt tP x),(rt tP y)]) (sl (okE tP t2) (sl (X8 (rt tP t2)) (some ((b (!t3)),[])) none) none) none) none)) none) none)
noncomputable def V6 (x:List Pln) (y:List Pln):Bool:=fa4 (one r1B) (va9 x y)
noncomputable def H5 (x:List Pln) (y:List Pln):Bool:=okO (one r1B) (va9 x y)
noncomputable def ab9:Sum:=pa0 (Aa8 tP) (Aa8 tP) (fun x y=>.guard (H5 x y) (.ret ((one r1B).enc (V6 x y),[])))
theorem rb2:i7 prog G 12 ab9:=Eb4 (bd b12 Wb4) (one r1B) (o:=va9) fun x y=>D2 (by kernel_rfl)
structure ra5 where
 ma3:Int
 ma4:Int
 ma5:Int
 Ma7:Int
 c9:List Pln
noncomputable def Hb2:List (Nat×Sum):=[(39,za8)]
theorem Bb7:m9 prog G Hb2:=⟨Ka7,trivial⟩
structure ha6 where
 alt:Nat
 bs0:Bool
noncomputable def aa2 {α:Type} (kk:ha6→α) (x:ra5):α:=let t1:=(P6 (rt tP x.c9) (⟨x.ma3,x.ma4,x.ma5,x.Ma7⟩:Pt));(sl (okE tP x.c9) (sl (P7 (rt tP x.c9) (⟨x.ma3,x.ma4,x.ma5,x.Ma7⟩:Pt)) (kk ⟨1,(!t1)⟩) (kk ⟨0,false⟩)) (kk ⟨0,false⟩))
noncomputable def ra6 (x:ra5):ha6:=aa2 (fun r=>r) x
noncomputable def za2 (x:ra5) (r:ha6):DT (a7×List a8):=(.ite (Nat.beq r.alt 1) (.ret ((b r.bs0),[⟨0,1,[[(eL tP x.c9)]],true,false,0⟩])) .fail)
theorem Mb2 {α β:Type} (F:α→β) (kk:ha6→α) (x:ra5):F (aa2 kk x)=aa2 (fun r=>F (kk r)) x:=by unfold aa2;(repeat' apply A4 (f:=F))<;>rfl
noncomputable def cb6:Sum:=Ja9 ⟨[(.agg [(.o (.int .i64)),(.o (.int .i64)),(.o (.int .i64)),(.o (.int .i64))]),(.s (.o (.ptr 0 0 0 0)))],[⟨0,1,true,(some [[(.c 4 (nL tP))]])⟩],fun a H=>(⟨(toI (slT (cellsOf (slT a 0)) 0)),(toI (slT (cellsOf (slT a 0)) 1)),(toI (slT (cellsOf (slT a 0)) 2)),(toI (slT (cellsOf (slT a 0)) 3)),(rL tP (slT (rwT (elT H 0) 0) 0))⟩,())⟩ (fun x=>za2 x (ra6 x))
theorem Hb3:i7 prog G 38 cb6:=M5 (enc:=fun x=>⟨[(.agg [(i x.ma3),(i x.ma4),(i x.ma5),(i x.Ma7)]),(.ptr 0 0 0 0)],[⟨0,1,[[(eL tP x.c9)]],true,false,0⟩]⟩) (fun a H=>by kernel_rfl) (bd b38 Bb7) fun x=>D2 (Eq.trans (b:=aa2 (fun r=>(za2 x r).run) x) (by kernel_rfl) (Mb2 (fun r=>(za2 x r).run) (fun r=>r) x).symm)
structure O1 where
 H8:List Pt
 c9:List Pln
noncomputable def la9:List (Nat×Sum):=[(38,cb6)]
theorem Ha9:m9 prog G la9:=⟨Hb3,trivial⟩
structure F9 where
 H8:List Pt
 is7:Int
structure l8 where
 is8:Int
 c9:List Pln
noncomputable def Fa5 (p:F9) (s:l8):St:=⟨((eL tX p.H8)::((.fn 38 [(.ptr 0 0 0 0)])::(ra 5 ((i p.is7)::((i s.is8)::(ra 10 [])))))),[⟨0,1,[[(eL tP s.c9)]],true,false,0⟩]⟩
noncomputable def B6 {α:Type} (k:l8→α) (e:Nat→α) (z:α) (p:F9) (s:l8):α:=let t1:=(ra6 ⟨(gL tX p.H8 s.is8.toNat).px,(gL tX p.H8 s.is8.toNat).py,(gL tX p.H8 s.is8.toNat).pz,(gL tX p.H8 s.is8.toNat).pw,(rt tP s.c9)⟩);(sl (decide (s.is8 < p.is7)) (sl (inB s.is8 (List.length p.H8)) (sl ((cnE tP s.c9)&&true) (sl (Nat.beq t1.alt 1) (sl t1.bs0 (e 1) (k ⟨(W (s.is8+1)),(rt tP s.c9)⟩)) z) z) z) (e 2))
noncomputable def E0 (p:F9) (s:l8):Stp l8:=B6 .next .exit .fail p s
noncomputable def V7:Lo F9 l8:=⟨En la9,1,ud0,[1,0,1,4,4],[0,1,7,8],.p,[⟨((.s (.c 4 (nL tX)))::((.fn 38 [(.o (.ptr 0 0 0 0))])::(ru2 5 ((.s (.o (.int .i64)))::((.s (.o (.int .i64)))::(ru2 10 [])))))),[⟨0,1,true,(some [[(.c 4 (nL tP))]])⟩],fun a H=>(⟨(rL tX (slT a 0)),(toI (slT a 7))⟩,⟨(toI (slT a 8)),(rL tP (slT (rwT (elT H 0) 0) 0))⟩)⟩],E0,[(none,fun p s=>⟨[(i s.is8)],[⟨0,1,[[(eL tP (rt tP s.c9))]],true,false,0⟩]⟩),(some 0,fun p s=>⟨((eL tX p.H8)::((.fn 38 [(.ptr 0 0 0 0)])::(ra 5 ((i p.is7)::((i s.is8)::((b (decide (s.is8 < p.is7)))::(ra 9 []))))))),[⟨0,1,[[(eL tP s.c9)]],true,false,0⟩]⟩)],Fa5⟩
theorem Fa6:V7.Ok:=Lo.ok [] (by kernel_rfl) .nil rfl (.cons (fun a H=>by kernel_rfl) .nil) fun p s=>(.of @B6 (fun F _ _ _ _ _=>by unfold B6;(repeat' apply A4 (f:=F))<;>rfl) (by kernel_rfl))
structure O2 where
 alt:Nat
 is0:Int
 c9:List Pln
noncomputable def C7 {α:Type} (kk:O2→α) (x:O1):α:=let t1:=(lp (E0 (⟨(rt tX x.H8),(↑(List.length x.H8):Int)⟩:F9)) (⟨0,(rt tP x.c9)⟩:l8));(sl ((cnE tX x.H8)&&((cnE tP x.c9)&&true)) (sl (Nat.beq t1.1 1) (kk ⟨1,t1.2.is8,(rt tP t1.2.c9)⟩) (sl (Nat.beq t1.1 2) (kk ⟨1,(-1),t1.2.c9⟩) (kk ⟨0,0,[]⟩))) (kk ⟨0,0,[]⟩))
noncomputable def Z7 (x:O1):O2:=C7 (fun r=>r) x
noncomputable def Y3 (x:O1) (r:O2):DT (a7×List a8):=(.ite (Nat.beq r.alt 1) (.ret ((i r.is0),[⟨0,1,[[(eL tP r.c9)]],true,false,0⟩])) .fail)
theorem Oa8 {α β:Type} (F:α→β) (kk:O2→α) (x:O1):F (C7 kk x)=C7 (fun r=>F (kk r)) x:=by unfold C7;(repeat' apply A4 (f:=F))<;>rfl
noncomputable def oa2:Sum:=Ja9 ⟨[(.s (.c 4 (nL tX))),(.fn 38 [(.o (.ptr 0 0 0 0))])],[⟨0,1,true,(some [[(.c 4 (nL tP))]])⟩],fun a H=>(⟨(rL tX (slT a 0)),(rL tP (slT (rwT (elT H 0) 0) 0))⟩,())⟩ (fun x=>Y3 x (Z7 x))
theorem Ma2:i7 prog G 61 oa2:=M5 (enc:=fun x=>⟨[(eL tX x.H8),(.fn 38 [(.ptr 0 0 0 0)])],[⟨0,1,[[(eL tP x.c9)]],true,false,0⟩]⟩) (fun a H=>by kernel_rfl) (bd b61 Ha9) fun x=>db0 (.s .p (.s (.s .p (.b (.u V7.ls))) .p)) [V7.pr] (by kernel_rfl) (.cons Fa6 .nil) (Eq.trans (b:=C7 (fun r=>(Y3 x r).run) x) (by kernel_rfl) (Oa8 (fun r=>(Y3 x r).run) (fun r=>r) x).symm)
structure J9 where
 H8:List Pt
 c9:List Pln
noncomputable def Ca4:List (Nat×Sum):=[(61,oa2)]
theorem za3:m9 prog G Ca4:=⟨Ma2,trivial⟩
structure K0 where
 alt:Nat
 bs0:Bool
 c9:List Pln
noncomputable def z6 {α:Type} (kk:K0→α) (x:J9):α:=let t1:=(Z7 ⟨(rt tX x.H8),(rt tP x.c9)⟩);(sl ((cnE tX x.H8)&&((cnE tP x.c9)&&true)) (sl (Nat.beq t1.alt 1) (kk ⟨1,(decide (t1.is0≥0)),t1.c9⟩) (kk ⟨0,false,[]⟩)) (kk ⟨0,false,[]⟩))
noncomputable def S7 (x:J9):K0:=z6 (fun r=>r) x
noncomputable def R4 (x:J9) (r:K0):DT (a7×List a8):=(.ite (Nat.beq r.alt 1) (.ret ((b r.bs0),[⟨0,1,[[(eL tP r.c9)]],true,false,0⟩])) .fail)
theorem Fa7 {α β:Type} (F:α→β) (kk:K0→α) (x:J9):F (z6 kk x)=z6 (fun r=>F (kk r)) x:=by unfold z6;(repeat' apply A4 (f:=F))<;>rfl
noncomputable def ha7:Sum:=Ja9 ⟨[(.s (.c 4 (nL tX))),(.fn 38 [(.o (.ptr 0 0 0 0))])],[⟨0,1,true,(some [[(.c 4 (nL tP))]])⟩],fun a H=>(⟨(rL tX (slT a 0)),(rL tP (slT (rwT (elT H 0) 0) 0))⟩,())⟩ (fun x=>R4 x (S7 x))
theorem Ca5:i7 prog G 37 ha7:=M5 (enc:=fun x=>⟨[(eL tX x.H8),(.fn 38 [(.ptr 0 0 0 0)])],[⟨0,1,[[(eL tP x.c9)]],true,false,0⟩]⟩) (fun a H=>by kernel_rfl) (bd b37 za3) fun x=>D2 (Eq.trans (b:=z6 (fun r=>(R4 x r).run) x) (by kernel_rfl) (Fa7 (fun r=>(R4 x r).run) (fun r=>r) x).symm)
noncomputable def Wb5:List (Nat×Sum):=[(20,sa7),(26,na4),(9,qa0),(37,ha7)]
theorem Mb3:m9 prog G Wb5:=⟨va4,pa7,va3,Ca5,trivial⟩
noncomputable def qa4 (x:List Pln) (y:List Pln):Option (a7×List a8):=let t1:=(W4 (rt tP x));let t2:=(T9 [(rt tP y)]);let t3:=(V9 (rt tP x));let t4:=(S7 ⟨(rt tX t3),(rt tP y)⟩);(sl (okE tP x) (sl (M1 (rt tP x)) (sl t1 (sl ((okE tP y)&&true) (sl (U0 [(rt tP y)]) (sl t2 (sl (okE tP x) (sl (W0 (rt tP x)) (sl ((cnE tX t3)&&((cnE tP y)&&true)) (sl (Nat.beq t4.alt 1) (some ((b (!t4.bs0)),[])) none) none) none) none) (some ((b false),[]))) none) none) (some ((b false),[]))) none) none)
noncomputable def qa5 (x:List Pln) (y:List Pln):Bool:=fa4 (one r1B) (qa4 x y)
noncomputable def qa6 (x:List Pln) (y:List Pln):Bool:=okO (one r1B) (qa4 x y)
noncomputable def rb3:Sum:=pa0 (Aa8 tP) (Aa8 tP) (fun x y=>.guard (qa6 x y) (.ret ((one r1B).enc (qa5 x y),[])))
theorem Wb6:i7 prog G 13 rb3:=Eb4 (bd b13 Mb3) (one r1B) (o:=qa4) fun x y=>D2 (by kernel_rfl)
noncomputable def zc1:List (Nat×Sum):=[]
theorem oc2:m9 prog G zc1:=trivial
structure bb0 where
 d8:Int
 r5:Int
 r6:Int
 r7:Int
 r8:Int
 r9:Int
noncomputable def Ma3 {α:Type} (kk:bb0→α) (x:V3) (y:V3):α:=(kk ⟨y.x,(W (0 - x.x)),y.y,(W (0 - x.y)),y.z,(W (0 - x.z))⟩)
noncomputable def ga2 (x:V3) (y:V3):bb0:=Ma3 (fun r=>r) x y
noncomputable def lb1 (r:bb0):DT (a7×List a8):=.ret ((.sl 0 0 6 0),[⟨42,4,[[(i 1),(i 0),(i 0),(i r.d8)],[(i (-1)),(i 0),(i 0),(i r.r5)],[(i 0),(i 1),(i 0),(i r.r6)],[(i 0),(i (-1)),(i 0),(i r.r7)],[(i 0),(i 0),(i 1),(i r.r8)],[(i 0),(i 0),(i (-1)),(i r.r9)]],true,false,0⟩])
theorem Hc3 {α β:Type} (F:α→β) (kk:bb0→α) (x:V3) (y:V3):F (Ma3 kk x y)=Ma3 (fun r=>F (kk r)) x y:=by unfold Ma3;(repeat' apply A4 (f:=F))<;>rfl
noncomputable def ub8:Sum:=pa0 (ja0 tV) (ja0 tV) (fun x y=>lb1 (ga2 x y))
theorem Jb6:i7 prog G 7 ub8:=ta8 (bd b7 oc2) fun x y=>D2 (Eq.trans (b:=Ma3 (fun r=>(lb1 r).run) x y) (by kernel_rfl) (Hc3 (fun r=>(lb1 r).run) (fun r=>r) x y).symm)
noncomputable def bc3:List (Nat×Sum):=[(7,ub8)]
theorem Wb7:m9 prog G bc3:=⟨Jb6,trivial⟩
structure Ia0 where
 d8:Int
 r5:Int
 r6:Int
 r7:Int
 r8:Int
 r9:Int
noncomputable def wa0 {α:Type} (kk:Ia0→α)  : α:=let t1:=(ga2 (⟨0,0,0⟩:V3) (⟨1,1,1⟩:V3));(kk ⟨t1.d8,t1.r5,t1.r6,t1.r7,t1.r8,t1.r9⟩)
noncomputable def bb1  : Ia0:=wa0 (fun r=>r)
noncomputable def Ta5 (r:Ia0):DT (a7×List a8):=.ret ((.sl 0 0 6 0),[⟨42,4,[[(i 1),(i 0),(i 0),(i r.d8)],[(i (-1)),(i 0),(i 0),(i r.r5)],[(i 0),(i 1),(i 0),(i r.r6)],[(i 0),(i (-1)),(i 0),(i r.r7)],[(i 0),(i 0),(i 1),(i r.r8)],[(i 0),(i 0),(i (-1)),(i r.r9)]],true,false,0⟩])
theorem oc3 {α β:Type} (F:α→β) (kk:Ia0→α)  : F (wa0 kk )=wa0 (fun r=>F (kk r))  :=by unfold wa0;(repeat' apply A4 (f:=F))<;>rfl
noncomputable def Bb8:Sum:=sc9  (Ta5 (bb1 ))
theorem bc4:i7 prog G 21 Bb8:=Jc4 (bd b21 Wb7) (D2 (Eq.trans (b:=wa0 (fun r=>(Ta5 r).run) ) (by kernel_rfl) (oc3 (fun r=>(Ta5 r).run) (fun r=>r) ).symm))
end Go.Ev.Ce
end
namespace Go.Ev.Ce
open Go Go.Ev Go.Ev.L Go.Proofs
theorem oc4 (v:V3):La9 v=inV v∧Ma0 v=true:=by
 have h3:[v.x,v.y,v.z].length≤1000000000:=by simp
 have:La8 v=some (b (inV v),[]):=by
  unfold La8 inV
  simp only[Gb2 24 _ (by omega) h3,Gb3 24 _ (by omega) h3,L2]
  simp only[List.all_cons,List.all_nil,Bool.and_true]
 unfold La9 Ma0
 rw[this]
 exact⟨rfl,rfl⟩
noncomputable def has (c:List Pln) (v:V3):Bool:=(chk c==0)&&(inV v&&inn c ⟨v.x,v.y,v.z,1⟩)
theorem cd1 {c:List Pln} (hc:c.length≤1000000000) (v:V3):Ma1 c v=some (b (has c v),[]):=by
 unfold Ma1 has
 simp only[E5,fa6,Ab8 c hc,Ab9 c hc,(oc4 v).1,(oc4 v).2,Vb0 c _ hc,Vb1 c _ hc]
 cases chk c==0 with
 | false=>rfl
 | true=>cases inV v<;>rfl
theorem Mc0 {c:List Pln} (hc:c.length≤1000000000) (v:V3):sa3 c v=has c v:=by unfold sa3;rw[cd1 hc];rfl
theorem Mc1 {c:List Pln} (hc:c.length≤1000000000) (v:V3):ga1 c v=true:=by unfold ga1;rw[cd1 hc];rfl
theorem zc2 {a c:List Pln} (ha:(chk a==0)=true) (hc:(chk c==0)=true):Bds (a++c++ws)∧(a++c++ws).length≤200:=by
 rw[beq_iff_eq,kb1] at ha hc
 refine⟨fun p hp=>?_,by rw[List.length_append,List.length_append,show ws.length=6 from rfl];omega⟩
 rcases List.mem_append.1 hp with hp | hp
 ·rcases List.mem_append.1 hp with hp | hp
  ·exact ub1 (ha.2 p hp)
  ·exact ub1 (hc.2 p hp)
 ·exact pd8 p hp
noncomputable def apart (a c:List Pln):Bool:=!((chk a==0)&&(chk c==0))||!ball (a++c++ws)
theorem zc3 {a c:List Pln} (ha:a.length≤100000000) (hc:c.length≤100000000):va9 a c=some (b (apart a c),[]):=by
 have hn:[a,c].length≤1000000000:=by simp
 have hl:∀ x∈[a,c],x.length≤1000000000:=by
  intro x hx
  simp only[List.mem_cons,List.not_mem_nil,or_false] at hx
  rcases hx with rfl | rfl<;>omega
 have hf:[a,c].flatten=a++c:=by simp
 have hfl:[a,c].flatten.length≤1000000000:=by rw[hf,List.length_append];omega
 unfold va9 apart
 simp only[E5,fa6,xc4 _ hn hl,xc5 _ hn hl,Bd3 _ hn hfl,Bd4 _ hn hfl,hf,List.all_cons,List.all_nil,Bool.and_true]
 cases h1:chk a==0 with
 | false=>rfl
 | true =>
  cases h2:chk c==0 with
  | false=>rfl
  | true =>
   obtain⟨q1,q2⟩:=zc2 h1 h2
   rw[bd2 _ q1 q2,bd3 _ q1 q2]
   rfl
theorem bb2 {a c:List Pln} (ha:a.length≤100000000) (hc:c.length≤100000000):V6 a c=apart a c:=by unfold V6;rw[zc3 ha hc];rfl
theorem bb3 {a c:List Pln} (ha:a.length≤100000000) (hc:c.length≤100000000):H5 a c=true:=by unfold H5;rw[zc3 ha hc];rfl
noncomputable def cd2 (a c:List Pln):Bool:=ful a&&((chk c==0)&&(pts a).all (inn c))
theorem Hc4 (x:Pt) (c:List Pln) (hc:c.length≤1000000000):ra6 ⟨x.px,x.py,x.pz,x.pw,c⟩=⟨1,!inn c x⟩:=by
 unfold ra6 aa2
 simp only[E5,fa6,L2]
 show sl (P7 c x) (ha6.mk 1 (!P6 c x)) _=_
 rw[Vb0 c x hc,Vb1 c x hc]
 rfl
theorem hc5 {a c:List Pln} (ha:a.length≤1000000000) (hc:c.length≤1000000000):qa4 a c=some (b (cd2 a c),[]):=by
 have hX:=nc8 a
 have h:=Ya5 (step:=E0 ⟨pts a,((pts a).length:Int)⟩) (mk:=fun j=>(⟨(j:Int),c⟩:l8)) (c:=fun x=>!inn c x) (u:=1) (fin:=2) tX (pts a) (by omega)
  (fun j hj=>by
   simp only[E0,B6,Int.toNat_natCast,E5,G3,Hc4 _ _ hc,M3 hj (show (pts a).length≤4611686018427387904 by omega)]
   rw[btD (J7 hj),bt (q8 hj)]
   rfl)
  (by simp only[E0,B6];rw[bfD (la5 (Nat.lt_irrefl _))]) 0 (Nat.zero_le _)
 rw[List.drop_zero] at h
 have e:((pts a).any fun x=>!inn c x)=!(pts a).all (inn c):=by rw[List.not_all_eq_any_not]
 unfold qa4 S7 z6 Z7 C7 cd2
 simp only[E5,G3,fa6,kb5 ha,kb6 ha,Ab8 c hc,Ab9 c hc,kb3 ha,kb4 ha]
 rw[show (⟨0,c⟩:l8)=⟨((0:Nat):Int),c⟩ from rfl,h,e]
 cases ful a with
 | false=>rfl
 | true =>
  cases chk c==0 with
  | false=>rfl
  | true =>
   cases (pts a).all (inn c) with
   | true=>rfl
   | false =>
    simp only[Bool.not_false,if_true,Nat.zero_add]
    show some (b (!(decide ((((pts a).findIdx fun x=>!inn c x:Nat):Int)≥0))),[])=_
    rw[show decide ((((pts a).findIdx fun x=>!inn c x:Nat):Int)≥0)=true from decide_eq_true (by omega)]
    rfl
theorem cd3 {a c:List Pln} (ha:a.length≤1000000000) (hc:c.length≤1000000000):qa5 a c=cd2 a c:=by unfold qa5;rw[hc5 ha hc];rfl
theorem cd4 {a c:List Pln} (ha:a.length≤1000000000) (hc:c.length≤1000000000):qa6 a c=true:=by unfold qa6;rw[hc5 ha hc];rfl
end Go.Ev.Ce
namespace Go.Ev.L
open Go Go.Ev Go.Sort Go.Proofs
section
variable {α:Type} [Inhabited α] {P:Program} {G:Nat→List Value} {g:FuncId} {S:Sum} {t:Ty α} {enc:α→List Value} {cf:α→α→Int}
theorem md1 (hc : i7 P G g S) (hS : ∀ x y, (S [.agg (t.row x), .agg (t.row y)] []).run = some (i (cf x y), [])) (hG : ∀ n, G n = []) (he : ∀ x, t.row x = (enc x).map .v) (k blk off size : Nat) (w : World) :
  CmpLays P g #[] enc k cf blk off size w:=by
 intro m os dk _ x y
 generalize sortWorldK enc k w blk off m dk os=w0
 have hrow:∀ (z:α),S8 (fun _=>⟨0,0,0⟩) [] (fun _ _=>False) w0 (.agg (t.row z)) (.agg (enc z).toArray):=fun z=>by
  refine .agg _ _ (by rw[he];simp) fun i u u' hu hu'=>?_
  rw[he,List.getElem?_map] at hu
  have hu':(enc z)[i]?=some u':=by simpa using hu'
  rw[hu'] at hu
  injection hu with hu
  subst hu
  exact .v _
 obtain⟨_,h⟩:=hc _ _ _ _ (hS x y) (fun k=>w0.heap.size≤k) (fun _=>⟨0,0,0⟩) (fun _ _=>False) w0 [.agg (enc x).toArray,.agg (enc y).toArray]
  ⟨fun id b hb=>by simp at hb,fun id id' b b' hb=>by simp at hb,fun b o hf=>hf.elim,fun k hk=>hk⟩ rfl
  (fun i u u' hu hu'=>by
   match i,hu,hu' with
   | 0,hu,hu'=>cases hu;cases hu';exact .val (hrow x)
   | 1,hu,hu'=>cases hu;cases hu';exact .val (hrow y))
  (fun n c v hv=>by rw[hG] at hv;simp at hv)
 refine h.mono fun e w' ⟨r',h1,ρ',F',h2,h3,h4⟩=>?_
 have h5:=S9 h4
 subst h5
 refine⟨h1,w'.drawn - w0.drawn,w'.heap.extract w0.heap.size w'.heap.size,?_⟩
 have hd:=h2.ext.drawn
 have hs:=h2.ext.size
 have hheap:w'.heap=w0.heap++w'.heap.extract w0.heap.size w'.heap.size:=by
  apply Array.ext_getElem?
  intro j
  rcases Nat.lt_or_ge j w0.heap.size with hj | hj
  ·rw[Array.getElem?_append_left hj,h2.ext.block j hj (by omega)]
  ·rw[Array.getElem?_append_right hj,Array.getElem?_extract]
   have e:w0.heap.size+(j - w0.heap.size)=j:=by omega
   rw[e]
   split
   ·rfl
   ·rw[Array.getElem?_eq_none (by omega)]
 obtain⟨hp,tp,dr,os',out⟩:=w'
 have e1:=h2.ext.os;have e2:=h2.ext.tape;have e3:=h2.ext.output
 simp only at e1 e2 e3 hd hheap
 subst e1 e2 e3
 unfold grow World.drewN
 simp only
 congr 1
 omega
noncomputable def cd5 (t:Ty α) (g:Nat) (et:Nat) (srt:List α→List α):Sum:=fun args blks=>match args,blks with
 | [.sl 0 0 n 0,.fn g' []],[⟨et',es',el,true,false,0⟩] =>
  Bool.rec (motive:=fun _=>DT (a7×List a8)) .fail (.guard (Bool.and (Nat.ble n room) (Bool.and (Nat.ble n (len el)) (okS t el 0 n))) (.ret (.v (.tuple #[]),[⟨et',es',app (bL t (srt (slR t el 0 n))) (j8 el n),true,false,0⟩])))
   (Bool.and (Nat.beq g' g) (Bool.and (Nat.beq et' et) (Nat.beq es' t.es)))
 | _,_=>.fail
theorem Bb9 (l:List α) (j:Nat) (h:j < l.length):l.toArray[j]! = l[j]:=by
 rw[getElem!_pos l.toArray j (by simpa using h)]
 simp
theorem md2 {f : FuncId} {et : Nat} {srt : List α → List α} (hcall : fb6 P f) (hes : 0 < t.es) (he : ∀ x, t.row x = (enc x).map .v) (hx : ∀ r, t.ok r = true → r = t.row (t.rd r)) (h1 : ∀ x, ∀ v ∈ enc x, v.oneCell' = true)
  (hlen:∀ l,(srt l).length=l.length) (hcl:∀ blk off size w,CmpLays P g #[] enc t.es cf blk off size w)
  (hcon:∀ (blk cap:Nat) (d:Array α) (w:World),(∀ off size,CmpLays P g #[] enc t.es cf blk off size w)→HoldsK enc t.es w blk 0 d→blk < w.heap.size→d.size < 4611686018427387904 →
   Calls P f #[.slice (some ⟨blk,0,none⟩) d.size cap,.func (.func g) #[] #[]] w fun e w'=>e=.returned (.tuple #[])∧∃ n os,w'=sortWorldK enc t.es w blk 0 n (srt d.toList).toArray os) :
  i7 P G f (cd5 t g et srt):=by
 intro args blks r out hr W ρ F w args' hH hl hargs hG
 refine⟨hcall,?_⟩
 unfold cd5 at hr
 split at hr
 case h_2=>cases hr
 rename_i n g' et' es' el
 cases hb0:Bool.and (Nat.beq g' g) (Bool.and (Nat.beq et' et) (Nat.beq es' t.es)) with
 | false=>rw[hb0] at hr;cases hr
 | true =>
 rw[hb0] at hr
 rw[Bool.and_eq_true,Bool.and_eq_true] at hb0
 have q1:=Nat.eq_of_beq_eq_true hb0.1;have q2:=Nat.eq_of_beq_eq_true hb0.2.1;have q3:=Nat.eq_of_beq_eq_true hb0.2.2
 subst q1 q2 q3
 obtain⟨hg0,hr⟩:=DT.run_guard_some hr
 rw[Bool.and_eq_true,Bool.and_eq_true] at hg0
 have hroom:n≤room:=Nat.le_of_ble_eq_true hg0.1
 have hn:=Nat.le_of_ble_eq_true hg0.2.1
 rw[j7] at hn
 have hok:=hg0.2.2
 injection hr with hr;injection hr with p1 p2;subst p1 p2
 match args',hl with
 | [v0,v1],_ =>
 obtain⟨a,cap,b,rfl,hb,hd,_,hncap,hspot,hcap,hq⟩:=oa5 (hargs 0 _ _ rfl rfl)
 obtain⟨vs1,rfl,hvs1,_⟩:=Xa2 (hargs 1 _ _ rfl rfl)
 have hvs1:vs1=#[]:=Array.eq_empty_of_size_eq_zero (by simpa using hvs1.symm)
 subst hvs1
 rw[Ia3] at *
 have hb:b=⟨et',t.es,el,true,false,0⟩:=by simpa using hb.symm
 subst hb
 obtain⟨ha,hsz,hne⟩:=hq rfl
 have ha:a=⟨(ρ 0).blk,(ρ 0).off+0*t.es,none⟩:=ha.resolve_left fun h=>by omega
 obtain⟨cc,tt,fr,hB⟩:=hH.blk 0 _ rfl rfl
 obtain⟨hfr,hW,hoff,hsize,hnF,het⟩:=hB.own rfl
 subst hfr
 rw[hoff,Nat.zero_mul,Nat.add_zero] at ha
 subst ha
 generalize hbk:(ρ 0).blk=blk at *
 -- the rows as data
 have hrow:∀ j,j < n→s5 el j=(enc (gL t (slR t el 0 n) j)).map .v:=fun j hj=>by
  have h2:t.ok (s5 el (0+j))=true:=List.all_eq_true.1 hok j (by simpa using hj)
  rw[Nat.zero_add] at h2
  rw[← he,slR,Jc7 t _ hj,Nat.zero_add]
  exact hx _ h2
 have hld:(slR t el 0 n).length=n:=Jc6 ..
 have hk:∀ x,(enc x).length=t.es:=fun x=>by have:=t.h0 x;rw[j7,he] at this;simpa using this
 have hlt:blk < w.heap.size:=by
  have:=hB.obj
  rcases Nat.lt_or_ge blk w.heap.size with h | h
  ·exact h
  ·rw[hbk,Array.getElem?_eq_none h] at this;cases this
 have hobj:w.heap[blk]?=some (.cells cc tt (0,0)):=by rw[← hbk];exact hB.obj
 have hgd:∀ (l:List α) (j:Nat) (h:j < l.length),gL t l j=l[j]:=fun l j h=>by simp[gL,List.getD_eq_getElem?_getD,List.getElem?_eq_getElem h]
 have hdm:∀ q,q < n*t.es→q / t.es < n∧q % t.es < t.es∧(q / t.es)*t.es+q % t.es=q:=fun q hq=>⟨Nat.div_lt_of_lt_mul (by rw[Nat.mul_comm];exact hq),Nat.mod_lt _ hes,Nat.div_add_mod' q t.es⟩
 have hrowAt:∀ j,j < el.length→el[j]?=some (s5 el j):=fun j hj=>by
  unfold s5;rw[z7,List.getElem?_eq_getElem hj]
 have hH0:HoldsK enc t.es w blk 0 (slR t el 0 n).toArray:=by
  intro q hq
  have hq:q < n*t.es:=by rw[size_flatK] at hq;simpa [hld] using hq
  obtain⟨e1,e2,e3⟩:=hdm q hq
  rw[get_flatK _ _ _ _ (by simpa [hld] using hq),Bb9 _ _ (by rw[hld];exact e1),← hgd _ _ (by rw[hld];exact e1)]
  have hcx:(s5 el (q / t.es))[q % t.es]?=some (.v ((enc (gL t (slR t el 0 n) (q / t.es)))[q % t.es]!)):=by
   rw[hrow _ e1,List.getElem?_map,List.getElem?_eq_getElem (by rw[hk];exact e2),getElem!_pos _ _ (by rw[hk];exact e2)]
   rfl
  obtain⟨x',h5,h6⟩:=hB.cell (q / t.es) _ (q % t.es) _ (hrowAt _ (by omega)) hcx
  have h6:x'=(enc (gL t (slR t el 0 n) (q / t.es)))[q % t.es]! :=by cases h6;rfl
  subst h6
  rw[hoff] at h5
  simp only[e3,Nat.zero_add] at h5
  constructor
  ·simp only[World.cell?,hobj,Nat.zero_add]
   simpa using h5
  ·simp[World.frozen?,hobj]
 have hds:(slR t el 0 n).toArray.size=n:=by simpa using hld
 have hmax:n < 4611686018427387904:=by unfold room at hroom;omega
 have hcalls:=hcon blk cap (slR t el 0 n).toArray w (fun off size=>hcl blk off size w) hH0 hlt (by rw[hds];exact hmax)
 rw[hds] at hcalls
 refine hcalls.mono fun e w' ⟨h5,m,os,h6⟩=>⟨_,h5,ρ,F,?_⟩
 generalize hsd:srt (slR t el 0 n)=sd at *
 have hsl:sd.length=n:=by rw[← hsd,hlen,hld]
 have h6:w'=grow (mapBlock (Sort.ahead w m) blk (putCells id 0 (flatK enc t.es sd.toArray))) os:=h6
 have hw'size:w'.heap.size=w.heap.size+os.size:=by rw[h6];simp[mapBlock]
 have hold:∀ k,k < w.heap.size→k≠blk→w'.heap[k]?=w.heap[k]?:=fun k h7 h8=>by
  rw[h6]
  simp only[grow,mapBlock]
  rw[Array.getElem?_append_left (by simpa using h7),Array.getElem?_modify]
  simp[Ne.symm h8]
 have hnew:w'.heap[blk]?=some (.cells (putCells id 0 (flatK enc t.es sd.toArray) cc) tt (0,0)):=by
  rw[h6]
  simp only[grow,mapBlock]
  rw[Array.getElem?_append_left (by simpa using hlt),Array.getElem?_modify]
  simp[hobj,onCells]
 have hcells:∀ b o,F b o→w'.cell? ⟨b,o,none⟩=w.cell? ⟨b,o,none⟩:=fun b o hf=>by
  have h7:b≠blk:=fun h8=>hnF o (h8 ▸ hf)
  have:=Wa9 (hH.frz b o hf)
  simp only[World.cell?,hold b this h7]
 have hpc:∀ q,q < cc.size→(putCells id 0 (flatK enc t.es sd.toArray) cc)[q]?=if q < n*t.es then some ((enc sd.toArray[q / t.es]!)[q % t.es]!) else cc[q]?:=fun q hq=>by
  simp only[putCells,Array.getElem?_mapIdx,Array.getElem?_eq_getElem hq,Option.map_some,size_flatK,Nat.zero_le,true_and,Nat.zero_add,Nat.sub_zero,id]
  have:sd.toArray.size=n:=by simpa using hsl
  rw[this]
  split
  ·next h7=>rw[get_flatK _ _ _ _ (by rw[this];exact h7)]
  ·rfl
 have hel:(app (bL t sd) (j8 el n)).length=el.length:=by
  rw[C8,List.length_append,← j7 (bL t sd),ua0,hsl,G2,List.length_drop]
  omega
 have hnrow:∀ (j:Nat) r,(app (bL t sd) (j8 el n))[j]?=some r→(j < n∧r=t.row (gL t sd j))∨(n≤j∧el[j]?=some r):=fun j r hr=>by
  have hlb:(bL t sd).length=n:=by rw[← j7,ua0,hsl]
  rw[C8] at hr
  rcases Nat.lt_or_ge j n with h7 | h7
  ·rw[List.getElem?_append_left (by omega)] at hr
   left
   refine⟨h7,?_⟩
   unfold bL at hr
   rw[o4,List.getElem?_map,List.getElem?_eq_getElem (by omega)] at hr
   injection hr with hr
   rw[← hr,hgd sd j (by omega)]
  ·rw[List.getElem?_append_right (by omega),hlb,G2,List.getElem?_drop] at hr
   right
   exact⟨h7,by rw[← hr];congr 1;omega⟩
 have hcs:el.length*t.es≤cc.size:=by have:=hB.len;rw[hsize] at this;exact this
 refine⟨⟨⟨?_,?_,?_,by omega,fun k h7 h8=>hold k h7 fun h9=>h8 (h9 ▸ hW),hcells,?_⟩,fun id b hb=>?_,fun _ _ h=>h,fun _ _ h=>.inl h,fun id b' hb' hn'=>?_⟩,⟨fun id b hb hd'=>?_,fun id id' b b' hb hb' h7 h8 h9 h10=>?_,fun b o hf=>by rw[hcells b o hf];exact hH.frz b o hf,fun k hk'=>hH.new k (by omega)⟩,.ofv _⟩
 ·rw[h6];rfl
 ·rw[h6];rfl
 ·rw[h6];rfl
 ·rw[h6];exact Nat.le_add_right _ _
 ·match id,hb with
  | 0,hb =>
   cases hb
   exact⟨_,rfl,rfl,Nat.le_refl _,fun _=>⟨rfl,rfl,by simp only[hel];exact Nat.le_refl _⟩⟩
 ·match id,hb' with
  | 0,hb'=>cases hb';exact absurd rfl (hn' ⟨et',t.es,el,true,false,0⟩ rfl)
 ·match id,hb with
  | 0,hb =>
   cases hb
   refine⟨_,tt,(0,0),by rw[hbk];exact hnew,?_,?_,?_,?_,fun _=>⟨rfl,by rw[hbk];exact hW,hoff,?_,by rw[hbk];exact hnF,het⟩,fun h=>by cases h⟩
   ·rw[hoff,hsize];simp[putCells]
   ·simp only[hel];exact hB.len
   ·intro j r hr
    rcases hnrow j r hr with⟨_,h8⟩ | ⟨_,h8⟩
    ·rw[h8,← j7];exact t.h0 _
    ·exact hB.rows j r h8
   ·intro j r c x hr hc
    rw[hoff,Nat.zero_add]
    rcases hnrow j r hr with⟨h7,h8⟩ | ⟨h7,h8⟩
    ·subst h8
     have hclt:c < t.es:=by
      have:=(List.getElem?_eq_some_iff.1 hc).1
      rw[← j7,t.h0] at this
      exact this
     have hq:j*t.es+c < n*t.es:=by
      have:=Nat.mul_le_mul_right t.es (show j+1≤n from h7)
      rw[Nat.add_mul,Nat.one_mul] at this
      omega
     have hqn:n*t.es≤el.length*t.es:=Nat.mul_le_mul_right _ hn
     have e1:(j*t.es+c) / t.es=j:=by rw[Nat.mul_comm,Nat.mul_add_div hes,Nat.div_eq_of_lt hclt,Nat.add_zero]
     have e2:(j*t.es+c) % t.es=c:=by rw[Nat.mul_comm,Nat.mul_add_mod,Nat.mod_eq_of_lt hclt]
     rw[he,List.getElem?_map,List.getElem?_eq_getElem (by rw[hk];exact hclt)] at hc
     injection hc with hc
     subst hc
     refine⟨(enc (gL t sd j))[c]'(by rw[hk];exact hclt),?_,.v _ (h1 _ _ (List.getElem_mem _))⟩
     rw[hpc _ (Nat.lt_of_lt_of_le hq (Nat.le_trans hqn hcs)),if_pos hq,e1,e2,Bb9 _ _ (by omega),hgd sd j (by omega),getElem!_pos _ _ (by rw[hk];exact hclt)]
    ·obtain⟨x',h9,h10⟩:=hB.cell j r c x h8 hc
     rw[hoff,Nat.zero_add] at h9
     have hq:¬ j*t.es+c < n*t.es:=by
      have:=Nat.mul_le_mul_right t.es h7
      omega
     have hlt':j*t.es+c < cc.size:=(Array.getElem?_eq_some_iff.1 h9).1
     exact⟨x',by rw[hpc _ hlt',if_neg hq];exact h9,h10.adv (fun _ _ h=>h) hcells⟩
   ·rw[hsize];simp[putCells]
 ·match id,hb,id',hb' with
  | 0,hb,0,hb'=>exact absurd rfl h10
end
end Go.Ev.L
namespace Go.Proofs
open Go.Shelf
set_option maxRecDepth 100000 in
def Ce.sortLay_ren:Go.Shelf.Ren:=⟨fun | 6=>33 | 15=>57 | 14=>56 | 28=>83 | 29=>84 | 20=>75 | 21=>76 | 22=>77 | 23=>78 | 24=>79 | 25=>80 | 26=>81 | 27=>82 | 46=>89 | 47=>90 | 48=>91 | 49=>92 | 50=>93 | 57=>94 | n=>n,fun | 22=>29 | 24=>42 | 25=>65 | 3=>3 | 39=>93 | 0=>0 | 53=>114 | 55=>116 | 4=>4 | 46=>107 | 45=>106 | 50=>111 | 5=>5 | 9=>9 | 66=>120 | 70=>124 | 76=>126 | 77=>127 | n=>n,fun | n=>n⟩
set_option maxRecDepth 100000 in
theorem Ce.sortLay:Go.Proofs.SlLaysF0.n6 Try.prog Ce.sortLay_ren:={
 mixed:=by kernel_rfl
 f6:=⟨Try.f33.name,by decide,Try.func33.trans (congrArg some (by kernel_rfl))⟩
 f14:=⟨Try.f56.name,by decide,Try.func56.trans (congrArg some (by kernel_rfl))⟩
 f15:=Try.func57.trans (congrArg some (by kernel_rfl))
 f20:=⟨Try.f75.name,by decide,Try.func75.trans (congrArg some (by kernel_rfl))⟩
 f21:=⟨Try.f76.name,by decide,Try.func76.trans (congrArg some (by kernel_rfl))⟩
 f22:=⟨Try.f77.name,by decide,Try.func77.trans (congrArg some (by kernel_rfl))⟩
 f23:=⟨Try.f78.name,by decide,Try.func78.trans (congrArg some (by kernel_rfl))⟩
 f24:=⟨Try.f79.name,by decide,Try.func79.trans (congrArg some (by kernel_rfl))⟩
 f25:=⟨Try.f80.name,by decide,Try.func80.trans (congrArg some (by kernel_rfl))⟩
 f26:=⟨Try.f81.name,by decide,Try.func81.trans (congrArg some (by kernel_rfl))⟩
 f27:=⟨Try.f82.name,by decide,Try.func82.trans (congrArg some (by kernel_rfl))⟩
 f28:=Try.func83.trans (congrArg some (by kernel_rfl))
 f29:=Try.func84.trans (congrArg some (by kernel_rfl))
 f46:=⟨Try.f89.name,by decide,Try.func89.trans (congrArg some (by kernel_rfl))⟩
 f47:=Try.func90.trans (congrArg some (by kernel_rfl))
 f48:=Try.func91.trans (congrArg some (by kernel_rfl))
 f49:=⟨Try.f92.name,by decide,Try.func92.trans (congrArg some (by kernel_rfl))⟩
 f50:=⟨Try.f93.name,by decide,Try.func93.trans (congrArg some (by kernel_rfl))⟩
 f57:=⟨Try.f94.name,by decide,Try.func94.trans (congrArg some (by kernel_rfl))⟩
 t0:=Try.underlying0
 a0:=Try.isAgg0
 z0:=Try.sizeOf0
 v0:=Try.zeroValue0
 t3:=Try.underlying3
 a3:=Try.isAgg3
 z3:=Try.sizeOf3
 v3:=Try.zeroValue3
 t4:=Try.underlying4
 a4:=Try.isAgg4
 z4:=Try.sizeOf4
 v4:=Try.zeroValue4
 t5:=Try.underlying5
 a5:=Try.isAgg5
 z5:=Try.sizeOf5
 v5:=Try.zeroValue5
 t9:=Try.underlying9
 a9:=Try.isAgg9
 z9:=Try.sizeOf9
 v9:=Try.zeroValue9
 t22:=Try.underlying29
 a22:=Try.isAgg29
 z22:=Try.sizeOf29
 v22:=Try.zeroValue29
 t25:=Try.underlying65
 a25:=Try.isAgg65
 z25:=Try.sizeOf65
 v25:=Try.zeroValue65
 t39:=Try.underlying93
 a39:=Try.isAgg93
 z39:=Try.sizeOf93
 v39:=Try.zeroValue93
 t45:=Try.underlying106
 a45:=Try.isAgg106
 z45:=Try.sizeOf106
 v45:=Try.zeroValue106
 t46:=Try.underlying107
 a46:=Try.isAgg107
 z46:=Try.sizeOf107
 v46:=Try.zeroValue107
 t50:=Try.underlying111
 a50:=Try.isAgg111
 z50:=Try.sizeOf111
 v50:=Try.zeroValue111
 t53:=Try.underlying114
 a53:=Try.isAgg114
 z53:=Try.sizeOf114
 v53:=Try.zeroValue114
 t55:=Try.underlying116
 a55:=Try.isAgg116
 z55:=Try.sizeOf116
 v55:=Try.zeroValue116
 t66:=Try.underlying120
 a66:=Try.isAgg120
 z66:=Try.sizeOf120
 v66:=Try.zeroValue120
 t70:=Try.underlying124
 a70:=Try.isAgg124
 z70:=Try.sizeOf124
 v70:=Try.zeroValue124
 t76:=Try.underlying126
 a76:=Try.isAgg126
 z76:=Try.sizeOf126
 v76:=Try.zeroValue126
 t77:=Try.underlying127
 a77:=Try.isAgg127
 z77:=Try.sizeOf127
 v77:=Try.zeroValue127 }
end Go.Proofs
namespace Go.Ev.Ce
open Go Go.Ev Go.Ev.L Go.Proofs Go.Sort
def ub9 (x y:Int):Int:=if x < y then -1 else if x > y then 1 else 0
def Ma4 (x y:Pln):Int :=
 if ub9 x.n.x y.n.x=0 then if ub9 x.n.y y.n.y=0 then if ub9 x.n.z y.n.z=0 then ub9 x.b y.b else ub9 x.n.z y.n.z else ub9 x.n.y y.n.y else ub9 x.n.x y.n.x
theorem Ob3 (x y:Int):ub9 x y < 0↔x < y:=by unfold ub9;split<;>(try split)<;>omega
theorem oc5 (x y:Int):ub9 x y=0↔x=y:=by unfold ub9;split<;>(try split)<;>omega
def LtP (x y:Pln):Prop:=x.n.x < y.n.x∨x.n.x=y.n.x∧(x.n.y < y.n.y∨x.n.y=y.n.y∧(x.n.z < y.n.z∨x.n.z=y.n.z∧x.b < y.b))
instance (x y:Pln):Decidable (LtP x y):=by unfold LtP;exact inferInstance
theorem md3 (x y:Pln):Ma4 x y < 0↔LtP x y:=by
 have h1:=Ob3 x.n.x y.n.x;have h2:=oc5 x.n.x y.n.x
 have h3:=Ob3 x.n.y y.n.y;have h4:=oc5 x.n.y y.n.y
 have h5:=Ob3 x.n.z y.n.z;have h6:=oc5 x.n.z y.n.z
 have h7:=Ob3 x.b y.b
 unfold Ma4 LtP
 split
 ·split
  ·split<;>omega
  ·omega
 ·omega
theorem Ia9 (x y:Pln):ltOf Ma4 x y=decide (LtP x y):=by
 unfold ltOf
 rw[decide_eq_decide]
 exact md3 x y
theorem Bd9:SWO (ltOf Ma4) where
 irrefl x:=by rw[Ia9];simp[LtP]
 trans x y z h1 h2:=by rw[Ia9,decide_eq_true_eq] at *;unfold LtP at *;omega
 ntrans x y z h1 h2:=by rw[Ia9,decide_eq_false_iff_not] at *;unfold LtP at *;omega
theorem Cd0 (x y:Pln) (h1:ltOf Ma4 x y=false) (h2:ltOf Ma4 y x=false):x=y:=by
 rw[Ia9,decide_eq_false_iff_not] at *
 unfold LtP at *
 obtain⟨⟨a,b,c⟩,d⟩:=x;obtain⟨⟨a',b',c'⟩,d'⟩:=y
 simp only at *
 have:a=a'∧b=b'∧c=c'∧d=d':=by omega
 obtain⟨rfl,rfl,rfl,rfl⟩:=this
 rfl
theorem zc4 (x y:Int):qa3 x y=some (i (ub9 x y),[]):=by
 unfold qa3 ub9
 simp only[Ya3,decide_eq_true_eq]
 split<;>(try split)<;>rfl
theorem Mc2 (x y:Int):W5 x y=ub9 x y:=by unfold W5;rw[zc4];rfl
theorem Mc3 (x y:Int):W6 x y=true:=by unfold W6;rw[zc4];rfl
theorem Wb8 (x y:Pln):ha5 x y=some (i (Ma4 x y),[]):=by
 unfold ha5 Ma4
 simp only[Mc2,Mc3,Ya3,beq_iff_eq,if_true]
 repeat' (first | rfl | split)
theorem Cd1 (x y:Pln):ra3 x y=Ma4 x y:=by unfold ra3;rw[Wb8];rfl
theorem Cd2 (x y:Pln):ra4 x y=true:=by unfold ra4;rw[Wb8];rfl
theorem Cd3 (x y:Pln):(Fa4 [.agg (tP.row x),.agg (tP.row y)] []).run=some (i (Ma4 x y),[]):=by
 have:(Fa4 [.agg (tP.row x),.agg (tP.row y)] []).run=sel (ra4 x y) (some (i (ra3 x y),[])) none:=by kernel_rfl
 rw[this,Cd2,Cd1]
def Fb2 (p:Pln):List Value:=[.int .i64 p.n.x,.int .i64 p.n.y,.int .i64 p.n.z,.int .i64 p.b]
instance:Inhabited Pln:=⟨⟨⟨0,0,0⟩,0⟩⟩
def cb7 (l:List Pln):List Pln:=l.mergeSort fun x y=>!ltOf Ma4 y x
theorem hc6 (l:List Pln):(cb7 l).length=l.length:=List.length_mergeSort l
noncomputable def sa8:Sum:=cd5 tP 34 42 cb7
theorem cd6:Ce.sortLay_ren.f 6=33:=by kernel_rfl
theorem hc7:Ce.sortLay_ren.t 24=42:=by kernel_rfl
set_option maxRecDepth 100000 in
theorem Ta6:i7 prog G 33 sa8:=by
 refine md2 (enc:=Fb2) (cf:=Ma4) ⟨_,Try.func33,by kernel_rfl,of_decide_eq_true (by kernel_rfl)⟩ (by decide) (fun _=>rfl) (fun r h=>xa8 (n:=4) h) (fun x v hv=>?_) hc6
  (fun blk off size w=>md1 Hb1 Cd3 (fun _=>rfl) (fun _=>rfl) _ _ _ _ _) (fun blk cap d w hcl hH hb hs=>?_)
 ·simp[Fb2] at hv
  rcases hv with rfl | rfl | rfl | rfl<;>rfl
 ·have eg:∀ args w,(callFunc 34 args).run Try.prog w=.ok (.enter 34 args) w:=enters_of Try.func34 (by kernel_rfl) rfl
  have:=AnyQ.slices_SortFunc Ce.sortLay 4 (by rw[hc7];exact Try.isAgg42) (by rw[hc7];exact Try.sizeOf42) Fb2 (fun _=>rfl) (fun x v hv=>by simp[Fb2] at hv;rcases hv with rfl | rfl | rfl | rfl<;>rfl) Ma4 Bd9 34 #[] blk 0 cap d w eg (hcl 0 d.size) hH hb hs
  rw[cd6] at this
  refine this.mono fun e w' ⟨h1,d',n,os,h2,h3,h4⟩=>⟨h1,n,os,?_⟩
  have h5:=sorted_unique_holds Bd9 Cd0 d d' h2 h3
  rw[h4]
  show _=sortWorldK Fb2 4 w blk 0 n (d.toList.mergeSort fun x y=>!ltOf Ma4 y x).toArray os
  rw[← h5]
end Go.Ev.Ce
section
namespace Go.Ev.Ce
open Go Go.Ev Go.Ev.L Go.Proofs
set_option maxRecDepth 100000
noncomputable def db5:List (Nat×Sum):=[]
theorem bb4:m9 prog G db5:=trivial
structure ba3 where
 alt:Nat
 ns0:Nat
 eh0:List (List a7)
noncomputable def K6 {α:Type} (kk:ba3→α) (x:Pln×List Pln):α:=(sl (Nat.beq (len (o8 (fun k=>(tP).row (gL tP (x.1::x.2) k)) (List.range (List.length x.2+1)))) 0) (kk ⟨1,0,[]⟩) (sl (Nat.beq 0 0&&Nat.ble ((0+(len (o8 (fun k=>(tP).row (gL tP (x.1::x.2) k)) (List.range (List.length x.2+1)))))*32) room) (kk ⟨1,(0+(len (o8 (fun k=>(tP).row (gL tP (x.1::x.2) k)) (List.range (List.length x.2+1))))),(app [] (o8 (fun k=>(tP).row (gL tP (x.1::x.2) k)) (List.range (List.length x.2+1))))⟩) (kk ⟨0,0,[]⟩)))
noncomputable def ba4 (x:Pln×List Pln):ba3:=K6 (fun r=>r) x
noncomputable def ja5 (r:ba3):DT (a7×List a8):=(.ite (Nat.beq r.alt 1) (.ret ((.sl 0 0 r.ns0 0),[⟨42,4,r.eh0,true,false,0⟩])) .fail)
theorem lb2 {α β:Type} (F:α→β) (kk:ba3→α) (x:Pln×List Pln):F (K6 kk x)=K6 (fun r=>F (kk r)) x:=by unfold K6;(repeat' apply A4 (f:=F))<;>rfl
noncomputable def Ca6:Sum:=ra8 (zd2 tP) (fun x=>ja5 (ba4 x))
theorem db6:i7 prog G 30 Ca6:=yb2 (bd b30 bb4) fun x=>D2 (Eq.trans (b:=K6 (fun r=>(ja5 r).run) x) (by kernel_rfl) (lb2 (fun r=>(ja5 r).run) (fun r=>r) x).symm)
noncomputable def oc6:List (Nat×Sum):=[(20,sa7),(9,qa0),(30,Ca6),(29,oa1),(33,sa8),(35,va8)]
theorem bc5:m9 prog G oc6:=⟨va4,va3,db6,La7,Ta6,Wa3,trivial⟩
noncomputable def Ca7 (x:Pln×List Pln):Option (a7×List a8):=let t1:=(W4 (rt tP (x.1::x.2)));let t2:=(V9 (rt tP (x.1::x.2)));let t3:=(ba4 (hC tP (fun k=>(tP).row (gL tP (x.1::x.2) k)),tC tP (List.length x.2) (fun k=>(tP).row (gL tP (x.1::x.2) k))));let t4:=(O0 ⟨t3.ns0,t3.eh0,(rt tX t2)⟩);let t5:=(V5 ⟨t4.ns0,(app (bL tP (cb7 (slR tP t4.eh0 0 t4.ns0))) (j8 t4.eh0 t4.ns0))⟩);(sl (okE tP (x.1::x.2)) (sl (M1 (rt tP (x.1::x.2))) (sl (!t1) (some ((.v (.slice none 0 0)),[])) (sl (okE tP (x.1::x.2)) (sl (W0 (rt tP (x.1::x.2))) (sl (okL tP (List.length x.2+1) (fun k=>(tP).row (gL tP (x.1::x.2) k))) (sl (Nat.beq t3.alt 1) (sl ((cnE tX t2)&&true) (sl (Nat.beq t4.alt 1) (sl (Bool.and (Nat.ble t4.ns0 room) (Bool.and (Nat.ble t4.ns0 (len t4.eh0)) (okS tP t4.eh0 0 t4.ns0))) (sl (Nat.beq t5.alt 1) (some ((.sl 0 0 t5.ns0 0),[⟨42,4,t5.eh0,true,false,0⟩])) none) none) none) none) none) none) none) none)) none) none)
noncomputable def lb3 (x:Pln×List Pln):List Pln:=fa4 (one (r1L tP)) (Ca7 x)
noncomputable def lb4 (x:Pln×List Pln):Bool:=okO (one (r1L tP)) (Ca7 x)
noncomputable def Jb7:Sum:=ra8 (zd2 tP) (fun x=>.guard (lb4 x) (.ret ((one (r1L tP)).enc (lb3 x),[])))
theorem oc7:i7 prog G 10 Jb7:=Ua2 (bd b10 bc5) (one (r1L tP)) (o:=Ca7) fun x=>D2 (by kernel_rfl)
noncomputable def Mb4:List (Nat×Sum):=[(21,Bb8),(9,qa0),(22,Wa2),(10,Jb7),(23,Wb1),(20,sa7),(14,ub7),(8,Ab2),(12,ab9),(13,rb3),(19,Ga9)]
theorem Hb4:m9 prog G Mb4:=⟨bc4,va3,Bb1,oc7,yc2,va4,Jb5,ac6,rb2,Wb6,Sa3,trivial⟩
noncomputable def ma0  : Option (a7×List a8):=let t1:=bb1;let t2:=(V9 [(⟨(⟨1,0,0⟩:V3),t1.d8⟩:Pln),(⟨(⟨(-1),0,0⟩:V3),t1.r5⟩:Pln),(⟨(⟨0,1,0⟩:V3),t1.r6⟩:Pln),(⟨(⟨0,(-1),0⟩:V3),t1.r7⟩:Pln),(⟨(⟨0,0,1⟩:V3),t1.r8⟩:Pln),(⟨(⟨0,0,(-1)⟩:V3),t1.r9⟩:Pln)]);let t3:=(V9 [(⟨(⟨(-1),0,0⟩:V3),0⟩:Pln),(⟨(⟨0,(-1),0⟩:V3),0⟩:Pln),(⟨(⟨0,0,(-1)⟩:V3),0⟩:Pln),(⟨(⟨2,3,4⟩:V3),1⟩:Pln)]);let t4:=(ea6 (rt tX t2) [(⟨1,1,1,1⟩:Pt),(⟨1,1,0,1⟩:Pt),(⟨1,0,1,1⟩:Pt),(⟨1,0,0,1⟩:Pt),(⟨0,1,1,1⟩:Pt),(⟨0,1,0,1⟩:Pt),(⟨0,0,1,1⟩:Pt),(⟨0,0,0,1⟩:Pt)]);let t5:=(ea6 (rt tX t3) [(⟨0,0,0,1⟩:Pt),(⟨0,0,1,4⟩:Pt),(⟨0,1,0,3⟩:Pt),(⟨1,0,0,2⟩:Pt)]);let t6:=(lb3 ((⟨(⟨1,0,0⟩:V3),t1.d8⟩:Pln),[(⟨(⟨(-1),0,0⟩:V3),t1.r5⟩:Pln),(⟨(⟨0,1,0⟩:V3),t1.r6⟩:Pln),(⟨(⟨0,(-1),0⟩:V3),t1.r7⟩:Pln),(⟨(⟨0,0,1⟩:V3),t1.r8⟩:Pln),(⟨(⟨0,0,(-1)⟩:V3),t1.r9⟩:Pln),(⟨(⟨1,0,0⟩:V3),t1.d8⟩:Pln),(⟨(⟨1,1,1⟩:V3),3⟩:Pln),(⟨(⟨1,0,0⟩:V3),7⟩:Pln)]));let t7:=(ab5 (rt tP t6) [(⟨(⟨(-1),0,0⟩:V3),t1.r5⟩:Pln),(⟨(⟨0,(-1),0⟩:V3),t1.r7⟩:Pln),(⟨(⟨0,0,(-1)⟩:V3),t1.r9⟩:Pln),(⟨(⟨0,0,1⟩:V3),t1.r8⟩:Pln),(⟨(⟨0,1,0⟩:V3),t1.r6⟩:Pln),(⟨(⟨1,0,0⟩:V3),t1.d8⟩:Pln)]);let t8:=(W4 []);let t9:=(W4 [(⟨(⟨1,0,0⟩:V3),t1.d8⟩:Pln),(⟨(⟨(-1),0,0⟩:V3),t1.r5⟩:Pln),(⟨(⟨0,1,0⟩:V3),t1.r6⟩:Pln),(⟨(⟨0,(-1),0⟩:V3),t1.r7⟩:Pln),(⟨(⟨0,0,1⟩:V3),t1.r8⟩:Pln),(⟨(⟨0,0,(-1)⟩:V3),t1.r9⟩:Pln),(⟨(⟨(-1),0,0⟩:V3),(-1)⟩:Pln)]);let t10:=(sa3 [(⟨(⟨1,0,0⟩:V3),t1.d8⟩:Pln),(⟨(⟨(-1),0,0⟩:V3),t1.r5⟩:Pln),(⟨(⟨0,1,0⟩:V3),t1.r6⟩:Pln),(⟨(⟨0,(-1),0⟩:V3),t1.r7⟩:Pln),(⟨(⟨0,0,1⟩:V3),t1.r8⟩:Pln),(⟨(⟨0,0,(-1)⟩:V3),t1.r9⟩:Pln)] (⟨1,0,0⟩:V3));let t11:=(sa3 [(⟨(⟨1,0,0⟩:V3),t1.d8⟩:Pln),(⟨(⟨(-1),0,0⟩:V3),t1.r5⟩:Pln),(⟨(⟨0,1,0⟩:V3),t1.r6⟩:Pln),(⟨(⟨0,(-1),0⟩:V3),t1.r7⟩:Pln),(⟨(⟨0,0,1⟩:V3),t1.r8⟩:Pln),(⟨(⟨0,0,(-1)⟩:V3),t1.r9⟩:Pln)] (⟨2,0,0⟩:V3));let t12:=(Ha5 [(⟨(⟨(-1),0,0⟩:V3),0⟩:Pln),(⟨(⟨0,(-1),0⟩:V3),0⟩:Pln),(⟨(⟨0,0,(-1)⟩:V3),0⟩:Pln),(⟨(⟨2,3,4⟩:V3),1⟩:Pln)]);let t13:=(V6 [(⟨(⟨1,0,0⟩:V3),t1.d8⟩:Pln),(⟨(⟨(-1),0,0⟩:V3),t1.r5⟩:Pln),(⟨(⟨0,1,0⟩:V3),t1.r6⟩:Pln),(⟨(⟨0,(-1),0⟩:V3),t1.r7⟩:Pln),(⟨(⟨0,0,1⟩:V3),t1.r8⟩:Pln),(⟨(⟨0,0,(-1)⟩:V3),t1.r9⟩:Pln)] [(⟨(⟨(-1),0,0⟩:V3),(-1)⟩:Pln)]);let t14:=(V6 [(⟨(⟨1,0,0⟩:V3),t1.d8⟩:Pln),(⟨(⟨(-1),0,0⟩:V3),t1.r5⟩:Pln),(⟨(⟨0,1,0⟩:V3),t1.r6⟩:Pln),(⟨(⟨0,(-1),0⟩:V3),t1.r7⟩:Pln),(⟨(⟨0,0,1⟩:V3),t1.r8⟩:Pln),(⟨(⟨0,0,(-1)⟩:V3),t1.r9⟩:Pln)] [(⟨(⟨(-1),(-1),0⟩:V3),(-1)⟩:Pln)]);let t15:=(qa5 [(⟨(⟨1,0,0⟩:V3),t1.d8⟩:Pln),(⟨(⟨(-1),0,0⟩:V3),t1.r5⟩:Pln),(⟨(⟨0,1,0⟩:V3),t1.r6⟩:Pln),(⟨(⟨0,(-1),0⟩:V3),t1.r7⟩:Pln),(⟨(⟨0,0,1⟩:V3),t1.r8⟩:Pln),(⟨(⟨0,0,(-1)⟩:V3),t1.r9⟩:Pln)] [(⟨(⟨1,1,1⟩:V3),3⟩:Pln)]);let t16:=(qa5 [(⟨(⟨1,0,0⟩:V3),t1.d8⟩:Pln),(⟨(⟨(-1),0,0⟩:V3),t1.r5⟩:Pln),(⟨(⟨0,1,0⟩:V3),t1.r6⟩:Pln),(⟨(⟨0,(-1),0⟩:V3),t1.r7⟩:Pln),(⟨(⟨0,0,1⟩:V3),t1.r8⟩:Pln),(⟨(⟨0,0,(-1)⟩:V3),t1.r9⟩:Pln)] [(⟨(⟨1,1,1⟩:V3),2⟩:Pln)]);let t17:=(fa7 [(⟨(⟨0,0,0⟩:V3),0⟩:Pln)]);(sl (W0 [(⟨(⟨1,0,0⟩:V3),t1.d8⟩:Pln),(⟨(⟨(-1),0,0⟩:V3),t1.r5⟩:Pln),(⟨(⟨0,1,0⟩:V3),t1.r6⟩:Pln),(⟨(⟨0,(-1),0⟩:V3),t1.r7⟩:Pln),(⟨(⟨0,0,1⟩:V3),t1.r8⟩:Pln),(⟨(⟨0,0,(-1)⟩:V3),t1.r9⟩:Pln)]) (sl (W0 [(⟨(⟨(-1),0,0⟩:V3),0⟩:Pln),(⟨(⟨0,(-1),0⟩:V3),0⟩:Pln),(⟨(⟨0,0,(-1)⟩:V3),0⟩:Pln),(⟨(⟨2,3,4⟩:V3),1⟩:Pln)]) (sl (okE tX t2) (sl (ea7 (rt tX t2) [(⟨1,1,1,1⟩:Pt),(⟨1,1,0,1⟩:Pt),(⟨1,0,1,1⟩:Pt),(⟨1,0,0,1⟩:Pt),(⟨0,1,1,1⟩:Pt),(⟨0,1,0,1⟩:Pt),(⟨0,0,1,1⟩:Pt),(⟨0,0,0,1⟩:Pt)]) (sl (!t4) (some ((b false),[])) (sl (okE tX t3) (sl (ea7 (rt tX t3) [(⟨0,0,0,1⟩:Pt),(⟨0,0,1,4⟩:Pt),(⟨0,1,0,3⟩:Pt),(⟨1,0,0,2⟩:Pt)]) (sl (!t5) (some ((b false),[])) (sl (lb4 ((⟨(⟨1,0,0⟩:V3),t1.d8⟩:Pln),[(⟨(⟨(-1),0,0⟩:V3),t1.r5⟩:Pln),(⟨(⟨0,1,0⟩:V3),t1.r6⟩:Pln),(⟨(⟨0,(-1),0⟩:V3),t1.r7⟩:Pln),(⟨(⟨0,0,1⟩:V3),t1.r8⟩:Pln),(⟨(⟨0,0,(-1)⟩:V3),t1.r9⟩:Pln),(⟨(⟨1,0,0⟩:V3),t1.d8⟩:Pln),(⟨(⟨1,1,1⟩:V3),3⟩:Pln),(⟨(⟨1,0,0⟩:V3),7⟩:Pln)])) (sl (okE tP t6) (sl (ab6 (rt tP t6) [(⟨(⟨(-1),0,0⟩:V3),t1.r5⟩:Pln),(⟨(⟨0,(-1),0⟩:V3),t1.r7⟩:Pln),(⟨(⟨0,0,(-1)⟩:V3),t1.r9⟩:Pln),(⟨(⟨0,0,1⟩:V3),t1.r8⟩:Pln),(⟨(⟨0,1,0⟩:V3),t1.r6⟩:Pln),(⟨(⟨1,0,0⟩:V3),t1.d8⟩:Pln)]) (sl (!t7) (some ((b false),[])) (sl (M1 []) (sl (!t8) (some ((b false),[])) (sl (M1 [(⟨(⟨1,0,0⟩:V3),t1.d8⟩:Pln),(⟨(⟨(-1),0,0⟩:V3),t1.r5⟩:Pln),(⟨(⟨0,1,0⟩:V3),t1.r6⟩:Pln),(⟨(⟨0,(-1),0⟩:V3),t1.r7⟩:Pln),(⟨(⟨0,0,1⟩:V3),t1.r8⟩:Pln),(⟨(⟨0,0,(-1)⟩:V3),t1.r9⟩:Pln),(⟨(⟨(-1),0,0⟩:V3),(-1)⟩:Pln)]) (sl t9 (some ((b false),[])) (sl (ga1 [(⟨(⟨1,0,0⟩:V3),t1.d8⟩:Pln),(⟨(⟨(-1),0,0⟩:V3),t1.r5⟩:Pln),(⟨(⟨0,1,0⟩:V3),t1.r6⟩:Pln),(⟨(⟨0,(-1),0⟩:V3),t1.r7⟩:Pln),(⟨(⟨0,0,1⟩:V3),t1.r8⟩:Pln),(⟨(⟨0,0,(-1)⟩:V3),t1.r9⟩:Pln)] (⟨1,0,0⟩:V3)) (sl (!t10) (some ((b false),[])) (sl (ga1 [(⟨(⟨1,0,0⟩:V3),t1.d8⟩:Pln),(⟨(⟨(-1),0,0⟩:V3),t1.r5⟩:Pln),(⟨(⟨0,1,0⟩:V3),t1.r6⟩:Pln),(⟨(⟨0,(-1),0⟩:V3),t1.r7⟩:Pln),(⟨(⟨0,0,1⟩:V3),t1.r8⟩:Pln),(⟨(⟨0,0,(-1)⟩:V3),t1.r9⟩:Pln)] (⟨2,0,0⟩:V3)) (sl t11 (some ((b false),[])) (sl (Ha6 [(⟨(⟨(-1),0,0⟩:V3),0⟩:Pln),(⟨(⟨0,(-1),0⟩:V3),0⟩:Pln),(⟨(⟨0,0,(-1)⟩:V3),0⟩:Pln),(⟨(⟨2,3,4⟩:V3),1⟩:Pln)]) (sl (!((t12.1.x==0)&&((t12.1.y==0)&&((t12.1.z==0)&&true)))) (some ((b false),[])) (sl (!((t12.2.1.x==1)&&((t12.2.1.y==1)&&((t12.2.1.z==1)&&true)))) (some ((b false),[])) (sl (!t12.2.2) (some ((b false),[])) (sl (H5 [(⟨(⟨1,0,0⟩:V3),t1.d8⟩:Pln),(⟨(⟨(-1),0,0⟩:V3),t1.r5⟩:Pln),(⟨(⟨0,1,0⟩:V3),t1.r6⟩:Pln),(⟨(⟨0,(-1),0⟩:V3),t1.r7⟩:Pln),(⟨(⟨0,0,1⟩:V3),t1.r8⟩:Pln),(⟨(⟨0,0,(-1)⟩:V3),t1.r9⟩:Pln)] [(⟨(⟨(-1),0,0⟩:V3),(-1)⟩:Pln)]) (sl t13 (sl (H5 [(⟨(⟨1,0,0⟩:V3),t1.d8⟩:Pln),(⟨(⟨(-1),0,0⟩:V3),t1.r5⟩:Pln),(⟨(⟨0,1,0⟩:V3),t1.r6⟩:Pln),(⟨(⟨0,(-1),0⟩:V3),t1.r7⟩:Pln),(⟨(⟨0,0,1⟩:V3),t1.r8⟩:Pln),(⟨(⟨0,0,(-1)⟩:V3),t1.r9⟩:Pln)] [(⟨(⟨(-1),(-1),0⟩:V3),(-1)⟩:Pln)]) (sl (!t14) (sl (qa6 [(⟨(⟨1,0,0⟩:V3),t1.d8⟩:Pln),(⟨(⟨(-1),0,0⟩:V3),t1.r5⟩:Pln),(⟨(⟨0,1,0⟩:V3),t1.r6⟩:Pln),(⟨(⟨0,(-1),0⟩:V3),t1.r7⟩:Pln),(⟨(⟨0,0,1⟩:V3),t1.r8⟩:Pln),(⟨(⟨0,0,(-1)⟩:V3),t1.r9⟩:Pln)] [(⟨(⟨1,1,1⟩:V3),3⟩:Pln)]) (sl t15 (sl (qa6 [(⟨(⟨1,0,0⟩:V3),t1.d8⟩:Pln),(⟨(⟨(-1),0,0⟩:V3),t1.r5⟩:Pln),(⟨(⟨0,1,0⟩:V3),t1.r6⟩:Pln),(⟨(⟨0,(-1),0⟩:V3),t1.r7⟩:Pln),(⟨(⟨0,0,1⟩:V3),t1.r8⟩:Pln),(⟨(⟨0,0,(-1)⟩:V3),t1.r9⟩:Pln)] [(⟨(⟨1,1,1⟩:V3),2⟩:Pln)]) (sl (!t16) (sl (T7 [(⟨(⟨0,0,0⟩:V3),0⟩:Pln)]) (some ((b (t17==12)),[])) none) (some ((b false),[]))) none) (some ((b false),[]))) none) (some ((b false),[]))) none) (some ((b false),[]))) none)))) none)) none)) none)) none)) none)) none) none) none)) none) none)) none) none) none) none)
noncomputable def wa1  : Bool:=fa4 (one r1B) ma0
noncomputable def wa2  : Bool:=okO (one r1B) ma0
noncomputable def lb5:Sum:=sc9  (.guard wa2 (.ret ((one r1B).enc wa1,[])))
theorem Mb5:i7 prog G 5 lb5:=Dd7 (bd b5 Hb4) (one r1B) (o:=ma0) (D2 (by kernel_rfl))
end Go.Ev.Ce
end
namespace Go.Ev.Ce
open Go Go.Ev Go.Ev.L Go.Proofs
noncomputable def onc (X:List Pt) (p:Pln):Nat:=X.countP fun x=>rm p x==0
noncomputable def keep (X:List Pt) (p:Pln):Bool:=!decide ((onc X p:Int) < 3)
theorem Wb9 (p:Pln) (X:List Pt) (hX:X.length≤1000000000):ba9 ⟨p.n.x,p.n.y,p.n.z,p.b,X⟩=⟨1,!keep X p,X⟩:=by
 have h:=Nb6 (step:=ea8 ⟨X,(X.length:Int),X,p.n.x,p.n.y,p.n.z,p.b⟩) (mk:=fun j (n:Nat)=>(⟨(n:Int),(j:Int)⟩:J8)) (f:=fun n x=>if rm p x==0 then n+1 else n) (fin:=1) tX X (fun j n=>n≤j) hX
  (fun j n hj hi=>by
   have hW:W ((n:Int)+1)=((n+1:Nat):Int):=by rw[da1 (by omega) (by omega)];omega
   refine⟨?_,by show (if rm p (gL tX X j)==0 then n+1 else n)≤j+1;split<;>omega⟩
   simp only[ea8,ba2,Int.toNat_natCast,nc0,hW,M3 hj (show X.length≤4611686018427387904 by omega)]
   rw[btD (J7 hj),bt (q8 hj)]
   cases rm p (gL tX X j)==0<;>rfl)
  (fun n _=>by simp only[ea8,ba2];rw[bfD (la5 (Nat.lt_irrefl _))]) 0 (Nat.zero_le _) 0 (Nat.le_refl _)
 have h:=h.1
 have e:∀ (l:List Pt) (n:Nat),l.foldl (fun n x=>if rm p x==0 then n+1 else n) n=n+l.countP fun x=>rm p x==0:=by
  intro l
  induction l with
  | nil=>intro n;rfl
  | cons x l ih =>
   intro n
   rw[List.foldl_cons,ih,List.countP_cons]
   split<;>omega
 rw[List.drop_zero,e,Nat.zero_add] at h
 unfold ba9 ia6 keep onc
 simp only[E5,G3]
 rw[show (⟨0,0⟩:J8)=⟨((0:Nat):Int),((0:Nat):Int)⟩ from rfl,h]
 show ia5.mk 1 (decide _) X=ia5.mk 1 (!(!(decide _))) X
 rw[Bool.not_not]
theorem md4 (l:List Pln) (X:List Pt) (hl:l.length≤1000000000) (hX:X.length≤1000000000):N7 ⟨l.length,bL tP l,X⟩=⟨1,if l.any (fun p=>!keep X p) then ((l.findIdx (fun p=>!keep X p):Nat):Int) else -1,X⟩:=by
 have h:=Ya5 (step:=D9 ⟨l.length,(l.length:Int),bL tP l⟩) (mk:=fun j=>(⟨(j:Int),X⟩:l7)) (c:=fun p=>!keep X p) (u:=1) (fin:=2) tP l hl
  (fun j hj=>by
   simp only[D9,B4,Int.toNat_natCast,E5,G3,Ob2 hj,Bb5 hj,Wb9 _ _ hX,M3 hj (show l.length≤4611686018427387904 by omega)]
   rw[btD (J7 hj),bt (q8 hj)]
   rfl)
  (by simp only[D9,B4];rw[bfD (la5 (Nat.lt_irrefl _))]) 0 (Nat.zero_le _)
 rw[List.drop_zero] at h
 unfold N7 C5
 simp only[E5,G3]
 rw[show (⟨0,X⟩:l7)=⟨((0:Nat):Int),X⟩ from rfl,h]
 cases ha:l.any fun p=>!keep X p with
 | false=>rfl
 | true =>
  have hf:l.findIdx (fun p=>!keep X p) < l.length:=by
   rw[List.any_eq_true] at ha
   obtain⟨p,hp,hc⟩:=ha
   exact List.findIdx_lt_length_of_exists ⟨p,hp,hc⟩
  simp only[if_true,Nat.zero_add,Int.toNat_natCast,Bb5 hf,Wb9 _ _ hX,E5]
  rfl
theorem Cb0 {α:Type} (c:α→Bool):∀ l:List α,(l.take (l.findIdx c)).filter (fun x=>!c x)=l.take (l.findIdx c)
 | []=>rfl
 | x::l=>by
  rw[List.findIdx_cons]
  cases h:c x with
  | true=>rfl
  | false =>
   simp only[cond_false,List.take_succ_cons,List.filter_cons,h,Bool.not_false,if_true]
   rw[Cb0 c l]
theorem Hc5 {α:Type} (l:List α) (j:Nat) (h:j < l.length):l.take (j+1)=l.take j++[l[j]]:=by rw[List.take_succ_eq_append_getElem h]
theorem oc8 {α:Type} (t:Ty α) {l:List α} {j:Nat} (h:j < l.length):l.take (j+1)=l.take j++[gL t l j]:=by rw[Hc5 l j h,yb5 t h]
theorem Hb5 {α:Type} (t:Ty α) {l r:List α} {j:Nat} (h:l.drop j=r.drop j):gL t l j=gL t r j:=by
 have h1:=Ob0 t l j 0
 have h2:=Ob0 t r j 0
 rw[Nat.add_zero] at h1 h2
 rw[← h1,← h2,h]
theorem Cb1 {α:Type} {l r:List α} {j:Nat} (h:l.drop j=r.drop j) (k:Nat):l.drop (j+k)=r.drop (j+k):=by rw[← List.drop_drop,← List.drop_drop,h]
structure Del (l:List Pln) (f:Pln→Bool) (cur:List Pln) (m j:Nat):Prop where
 len:cur.length=l.length
 t:cur.take m=(l.take j).filter f
 d:cur.drop j=l.drop j
 le:m≤j
 lm:m≤l.length
theorem zc5 (l : List Pln) (X : List Pt) (hl : l.length ≤ 1000000000) (hX : X.length ≤ 1000000000) (m j : Nat) (cur : List Pln) (hd : Del l (keep X) cur m j) :
  ∃ t s,lp (y9 ⟨l.length⟩) ⟨(m:Int),(j:Int),bL tP cur,X⟩=(t,s)∧(t=1∧∃ m' cur' k,s=⟨((m':Nat):Int),((k:Nat):Int),bL tP cur',X⟩∧Del l (keep X) cur' m' k∧l.length≤k):=by
 refine nc9 (step:=y9 ⟨l.length⟩) (mk:=fun j (x:Nat×List Pln)=>(⟨(x.1:Int),(j:Int),bL tP x.2,X⟩:o6)) l.length (fun j x=>Del l (keep X) x.2 x.1 j) (fun t s=>t=1∧∃ m' cur' k,s=⟨((m':Nat):Int),((k:Nat):Int),bL tP cur',X⟩∧Del l (keep X) cur' m' k∧l.length≤k) hl (fun j x hj hx=>?_) (fun j x hj hx=>?_) j (m,cur) hd
 ·obtain⟨m,cur⟩:=x
  obtain⟨h1,h2,h3,h4,h5⟩:=hx
  simp only at h1 h2 h3 h4 h5
  have hjc:j < cur.length:=by omega
  have hmc:m < cur.length:=by omega
  have hg:gL tP cur j=gL tP l j:=Hb5 tP h3
  have hWm:W ((m:Int)+1)=((m+1:Nat):Int):=by rw[da1 (by omega) (by omega)];omega
  have hb:Nat.blt m cur.length=true:=by rw[Nat.blt_eq];exact hmc
  have hrow:s5 (bL tP cur) m=tP.row (gL tP cur m):=ia2 tP hmc
  have sp:∀ (v:Pln) (x1 x2 x3 x4:Int),ca7 (tP.row v) 0 [i x1,i x2,i x3,i x4]=tP.row ⟨⟨x1,x2,x3⟩,x4⟩:=fun _ _ _ _ _=>rfl
  have rl:∀ v:Pln,Nat.ble (0+4) (len (tP.row v))=true:=fun _=>rfl
  simp only[y9,B5,Int.toNat_natCast,E5,G3,Ob2 hjc,Bb5 hjc,Wb9 _ _ hX,M3 hj (show l.length≤4611686018427387904 by omega),hWm]
  rw[btD (J7 hj),bt (q8 hj)]
  simp only[Nat.zero_add,hrow,ua0,hb,sp,tc5,q8 (show m < l.length by omega),hg]
  have ht:=oc8 tP hj
  have hd1:cur.drop (j+1)=l.drop (j+1):=Cb1 h3 1
  cases hk:keep X (gL tP l j) with
  | true =>
   refine .nx ⟨(m+1,cur.set m (gL tP l j)),rfl,⟨by rw[List.length_set];exact h1,?_,?_,by omega,by show m+1≤l.length;omega⟩⟩
   ·show (cur.set m (gL tP l j)).take (m+1)=_
    rw[ht,List.filter_append,List.take_succ_eq_append_getElem (by rw[List.length_set];exact hmc),List.getElem_set_self,List.take_set_of_le (Nat.le_refl _),h2,List.filter_cons,hk,if_pos rfl,List.filter_nil]
   ·show (cur.set m (gL tP l j)).drop (j+1)=_
    rw[List.drop_set_of_lt (by omega),hd1]
  | false =>
   refine .nx ⟨(m,cur),rfl,⟨h1,?_,hd1,by omega,h5⟩⟩
   show cur.take m=_
   rw[ht,List.filter_append,h2,List.filter_cons,hk,if_neg (by simp),List.filter_nil,List.append_nil]
 ·obtain⟨m,cur⟩:=x
  refine⟨1,?_,rfl,m,cur,j,rfl,hx,hj⟩
  simp only[y9,B5]
  rw[bfD (by omega)]
theorem Mc4 (l:List Pln) (n:Nat):G0 (bL tP l) n=bL tP (l.take n):=by unfold bL;rw[G1,o4,o4,List.map_take]
theorem oc9 (l:List Pln) (n:Nat):j8 (bL tP l) n=bL tP (l.drop n):=by unfold bL;rw[G2,o4,o4,List.map_drop]
theorem Mc5 (n:Nat):List.replicate n [i 0,i 0,i 0,i 0]=bL tP (List.replicate n ⟨⟨0,0,0⟩,0⟩):=by unfold bL;rw[o4,List.map_replicate];rfl
theorem Sc9 (l : List Pln) (X : List Pt) (hl : l.length ≤ 1000000000) (hX : X.length ≤ 1000000000) :
  ∃ m r,O0 ⟨l.length,bL tP l,X⟩=⟨1,m,bL tP r,X⟩∧m≤r.length∧r.take m=l.filter (keep X)∧r.length=l.length:=by
 unfold O0 C6
 simp only[E5,G3,md4 l X hl hX]
 cases ha:l.any fun p=>!keep X p with
 | false =>
  refine⟨l.length,l,rfl,Nat.le_refl _,?_,rfl⟩
  rw[List.take_length]
  symm
  rw[List.filter_eq_self]
  intro p hp
  have:=List.any_eq_false.1 ha p hp
  simpa using this
 | true =>
  have hf:l.findIdx (fun p=>!keep X p) < l.length:=by
   rw[List.any_eq_true] at ha
   obtain⟨p,hp,hc⟩:=ha
   exact List.findIdx_lt_length_of_exists ⟨p,hp,hc⟩
  have hk:keep X (gL tP l (l.findIdx fun p=>!keep X p))=false:=by
   have:=List.findIdx_getElem (xs:=l) (p:=fun p=>!keep X p) (w:=hf)
   rw[yb5 tP hf]
   simpa using this
  have ht:=Cb0 (fun p=>!keep X p) l
  simp only[Bool.not_not] at ht
  generalize hF:l.findIdx (fun p=>!keep X p)=F at *
  have hW:W ((F:Int)+1)=((F+1:Nat):Int):=M3 hf (by omega)
  have hne:((F:Int)==-1)=false:=by rw[beq_eq_false_iff_ne];omega
  obtain⟨t,s,e1,rfl,m,cur,k,e2,e3,e4⟩:=zc5 l X hl hX F (F+1) l ⟨rfl,by rw[oc8 tP hf,List.filter_append,ht,List.filter_cons,hk,if_neg (by simp),List.filter_nil,List.append_nil],rfl,by omega,by omega⟩
  have hm:m≤l.length:=e3.lm
  have hin:inB (m:Int) (l.length+1)=true:=q8 (by omega)
  have hfin:cur.take m=l.filter (keep X):=by rw[e3.t,List.take_of_length_le e4]
  simp only[if_true,hW,hne,e1,e2,Int.toNat_natCast,hin,Nat.zero_add,Nat.sub_zero]
  refine⟨m,cur.take m++(List.replicate (l.length - m) ⟨⟨0,0,0⟩,0⟩++cur.drop (m+(l.length - m))),?_,?_,?_,?_⟩
  ·rw[Mc4,Mc5,oc9,Ya4,Ya4]
   rfl
  ·rw[List.length_append,List.length_append,List.length_take,List.length_replicate,e3.len];omega
  ·rw[List.take_append_of_le_length (by rw[List.length_take,e3.len];omega),List.take_take,Nat.min_self,hfin]
  ·rw[List.length_append,List.length_append,List.length_take,List.length_replicate,List.length_drop,e3.len];omega
def eqP (x y:Pln):Bool:=x.n.x==y.n.x&&(x.n.y==y.n.y&&(x.n.z==y.n.z&&(x.b==y.b&&true)))
theorem md5 (x y:Pln):eqP x y=true↔x=y:=by
 unfold eqP
 simp only[Bool.and_true,Bool.and_eq_true,beq_iff_eq]
 refine⟨fun⟨h1,h2,h3,h4⟩=>?_,fun h=>by subst h;exact⟨rfl,rfl,rfl,rfl⟩⟩
 obtain⟨⟨x1,x2,x3⟩,x4⟩:=x
 obtain⟨⟨y1,y2,y3⟩,y4⟩:=y
 simp only at h1 h2 h3 h4
 subst h1 h2 h3 h4
 rfl
def ddF:Pln→List Pln→List Pln
 | _,[]=>[]
 | a,x::l=>if eqP x a then ddF x l else x::ddF x l
def dd:List Pln→List Pln
 | []=>[]
 | x::l=>x::ddF x l
structure Cmp (l:List Pln) (n:Nat) (cur:List Pln) (m j:Nat) (R:List Pln):Prop where
 len:cur.length=l.length
 t:cur.take m++ddF (gL tP l (j - 1)) ((l.take n).drop j)=R
 d:cur.drop (j - 1)=l.drop (j - 1)
 le:m+1≤j
theorem pc0 (l : List Pln) (n o : Nat) (hn : n ≤ l.length) (hl : l.length ≤ 1000000000) (ho : o < n) (m : Nat) (cur : List Pln) (R : List Pln) (hd : Cmp l n cur m (o + 1) R) :
  ∃ t s,lp (o3 ⟨n,0+o,n - o⟩) ⟨(m:Int),((1:Nat):Int),bL tP cur⟩=(t,s)∧(t=1∧∃ m' cur' k,s=⟨((m':Nat):Int),k,bL tP cur'⟩∧cur'.length=l.length∧cur'.take m'=R∧m'≤n):=by
 refine nc9 (step:=o3 ⟨n,0+o,n - o⟩) (mk:=fun j (x:Nat×List Pln)=>(⟨(x.1:Int),(j:Int),bL tP x.2⟩:m8)) (n - o) (fun j x=>Cmp l n x.2 x.1 (o+j) R∧1≤j∧x.1≤n) (fun t s=>t=1∧∃ m' cur' k,s=⟨((m':Nat):Int),k,bL tP cur'⟩∧cur'.length=l.length∧cur'.take m'=R∧m'≤n) (by omega) (fun j x hj hx=>?_) (fun j x hj hx=>?_) 1 (m,cur) ⟨hd,Nat.le_refl _,by have:=hd.le;show m≤n;omega⟩
 ·obtain⟨m,cur⟩:=x
  obtain⟨⟨h1,h2,h3,h4⟩,hj1,hmn⟩:=hx
  simp only at h1 h2 h3 h4 hmn
  have hoj:o+j < n:=by omega
  have hjc:o+j < cur.length:=by omega
  have hjc':o+(j - 1) < cur.length:=by omega
  have hmc:m < cur.length:=by omega
  have hg':gL tP cur (o+(j - 1))=gL tP l (o+j - 1):=by rw[show o+(j - 1)=o+j - 1 by omega];exact Hb5 tP h3
  have hd1:cur.drop (o+j)=l.drop (o+j):=by have:=Cb1 h3 1;rw[show o+j - 1+1=o+j by omega] at this;exact this
  have hg:gL tP cur (o+j)=gL tP l (o+j):=Hb5 tP hd1
  have hWm:W ((m:Int)+1)=((m+1:Nat):Int):=by rw[da1 (by omega) (by omega)];omega
  have hWj:W ((j:Int) - 1)=((j - 1:Nat):Int):=by rw[da1 (by omega) (by omega)];omega
  have hb:Nat.blt m cur.length=true:=by rw[Nat.blt_eq];exact hmc
  have hrow:s5 (bL tP cur) m=tP.row (gL tP cur m):=ia2 tP hmc
  have sp:∀ (v:Pln) (x1 x2 x3 x4:Int),ca7 (tP.row v) 0 [i x1,i x2,i x3,i x4]=tP.row ⟨⟨x1,x2,x3⟩,x4⟩:=fun _ _ _ _ _=>rfl
  have rl:∀ v:Pln,Nat.ble 4 (len (tP.row v))=true:=fun _=>rfl
  simp only[o3,G5,Int.toNat_natCast,Nat.zero_add,hWj,Ec2 tP hjc,Ec2 tP hjc',Ec1 tP hjc,Ec1 tP hjc',M3 hj (show n - o≤4611686018427387904 by omega),hWm,hg,hg',hrow,ua0,hb,sp,rl,tc5,q8 (show m < n by omega)]
  rw[btD (J7 hj)]
  simp only[q8 hj,q8 (show j - 1 < n - o by omega),L2,Bool.and_self]
  rw[show ((gL tP l (o+j)).n.x==(gL tP l (o+j - 1)).n.x&&((gL tP l (o+j)).n.y==(gL tP l (o+j - 1)).n.y&&((gL tP l (o+j)).n.z==(gL tP l (o+j - 1)).n.z&&((gL tP l (o+j)).b==(gL tP l (o+j - 1)).b&&true))))=eqP (gL tP l (o+j)) (gL tP l (o+j - 1)) from rfl]
  have hcons:(l.take n).drop (o+j)=gL tP l (o+j)::(l.take n).drop (o+(j+1)):=by
   rw[List.drop_eq_getElem_cons (by rw[List.length_take];omega),List.getElem_take,yb5 tP (by omega)]
   rfl
  rw[hcons] at h2
  have hlast:o+(j+1) - 1=o+j:=by omega
  unfold ddF at h2
  cases he:eqP (gL tP l (o+j)) (gL tP l (o+j - 1)) with
  | true =>
   rw[he] at h2
   simp only[if_true] at h2
   refine .nx ⟨(m,cur),rfl,⟨⟨h1,?_,?_,by show m+1≤o+(j+1);omega⟩,by omega,hmn⟩⟩
   ·rw[hlast];exact h2
   ·rw[hlast];exact hd1
  | false =>
   rw[he] at h2
   simp only[Bool.false_eq_true,if_false] at h2
   refine .nx ⟨(m+1,cur.set m (gL tP l (o+j))),rfl,⟨⟨by rw[List.length_set];exact h1,?_,?_,by show m+1+1≤o+(j+1);omega⟩,by omega,by show m+1≤n;omega⟩⟩
   ·rw[hlast]
    show (cur.set m (gL tP l (o+j))).take (m+1)++_=R
    rw[List.take_succ_eq_append_getElem (by rw[List.length_set];exact hmc),List.getElem_set_self,List.take_set_of_le (Nat.le_refl _),List.append_assoc]
    exact h2
   ·rw[hlast]
    show (cur.set m (gL tP l (o+j))).drop (o+j)=_
    rw[List.drop_set_of_lt (by omega),hd1]
 ·obtain⟨m,cur⟩:=x
  obtain⟨⟨h1,h2,h3,h4⟩,hj1,hmn⟩:=hx
  simp only at h1 h2 h3 h4 hmn
  refine⟨1,?_,rfl,m,cur,_,rfl,h1,?_,hmn⟩
  ·simp only[o3,G5]
   rw[bfD (by omega)]
  ·rw[List.drop_eq_nil_of_le (by rw[List.length_take];omega)] at h2
   unfold ddF at h2
   rw[List.append_nil] at h2
   exact h2
theorem Hc6 (l : List Pln) (n : Nat) (hn : n ≤ l.length) (hl : l.length ≤ 1000000000) :
  ∃ m r,V5 ⟨n,bL tP l⟩=⟨1,m,bL tP r⟩∧m≤r.length∧r.take m=dd (l.take n):=by
 unfold V5 H4
 simp only
 by_cases h2:(n:Int) < 2
 ·rw[btD h2]
  refine⟨n,l,rfl,hn,?_⟩
  have:n=0∨n=1:=by omega
  rcases this with rfl | rfl
  ·rfl
  ·cases l with
   | nil=>rfl
   | cons x l=>rfl
 ·rw[bfD h2]
  have h1n:1≤n:=by omega
  have hI : ∀ j, j < n → 1 ≤ j → l.take j ++ ddF (gL tP l (j - 1)) ((l.take n).drop j) = dd (l.take n) →
    (eqP (gL tP l j) (gL tP l (j - 1))=true→Cmp l n l j (j+1) (dd (l.take n)))∧(eqP (gL tP l j) (gL tP l (j - 1))=false→l.take (j+1)++ddF (gL tP l (j+1 - 1)) ((l.take n).drop (j+1))=dd (l.take n)):=by
   intro j hj hj1 hR
   have hcons:(l.take n).drop j=gL tP l j::(l.take n).drop (j+1):=by
    rw[List.drop_eq_getElem_cons (by rw[List.length_take];omega),List.getElem_take,yb5 tP (by omega)]
   rw[hcons] at hR
   unfold ddF at hR
   constructor
   ·intro he
    rw[he] at hR
    simp only[if_true] at hR
    exact⟨rfl,hR,rfl,Nat.le_refl _⟩
   ·intro he
    rw[he] at hR
    simp only[Bool.false_eq_true,if_false] at hR
    rw[oc8 tP (show j < l.length by omega),List.append_assoc]
    exact hR
  have inner:∀ k,k < n→1≤k→Cmp l n l k (k+1) (dd (l.take n))→∃ m' cur' k',lp (o3 ⟨n,0+k,n - k⟩) ⟨(k:Int),1,bL tP l⟩=(1,⟨((m':Nat):Int),k',bL tP cur'⟩)∧cur'.length=l.length∧cur'.take m'=dd (l.take n)∧m'≤n:=by
   intro k hk hk1 hc
   obtain⟨t,s,e1,rfl,m',cur',k',rfl,e2,e3,e4⟩:=pc0 l n k hn hl hk k l _ hc
   exact⟨m',cur',k',e1,e2,e3,e4⟩
  have key:=nc9 (step:=H7 ⟨n,bL tP l⟩) (mk:=fun j (_:Unit)=>(⟨(j:Int)⟩:o7)) n (fun j _=>1≤j∧j≤n∧l.take j++ddF (gL tP l (j - 1)) ((l.take n).drop j)=dd (l.take n))
   (fun t s=>(t=1∧∃ k:Nat,s=⟨(k:Int)⟩∧k < n∧1≤k∧Cmp l n l k (k+1) (dd (l.take n)))∨(t=2∧l.take n=dd (l.take n))) (by omega) (fun j x hj hx=>?_) (fun j x hj hx=>?_) 1 () ⟨Nat.le_refl _,h1n,by
    cases l with
    | nil=>simp only[List.length_nil] at hn;omega
    | cons x l =>
     cases n with
     | zero=>omega
     | succ n=>rfl⟩
  ·obtain⟨t,s,e1,e2⟩:=key
   rw[show (⟨1⟩:o7)=⟨((1:Nat):Int)⟩ from rfl,e1]
   rcases e2 with⟨rfl,k,rfl,hk,hk1,hc⟩ | ⟨rfl,he⟩
   ·obtain⟨m',cur',k',e2,e3,e4,e5⟩:=inner k hk hk1 hc
    simp only[Int.toNat_natCast,e2]
    simp only[Nat.zero_add,Nat.sub_zero]
    refine⟨m',cur'.take m'++(List.replicate (n - m') ⟨⟨0,0,0⟩,0⟩++cur'.drop (m'+(n - m'))),?_,?_,?_⟩
    ·rw[Mc4,Mc5,oc9,Ya4,Ya4]
     rfl
    ·rw[List.length_append,List.length_take,e3];omega
    ·rw[List.take_append_of_le_length (by rw[List.length_take,e3];omega),List.take_take,Nat.min_self,e4]
   ·exact⟨n,l,rfl,hn,he⟩
  ·obtain⟨hj1,hjn,hR⟩:=hx
   obtain⟨i1,i2⟩:=hI j hj hj1 hR
   have hWj:W ((j:Int) - 1)=((j - 1:Nat):Int):=by rw[da1 (by omega) (by omega)];omega
   have hjl:j < l.length:=by omega
   have hjl':j - 1 < l.length:=by omega
   simp only[H7,G6,Int.toNat_natCast,hWj,Ob2 hjl,Ob2 hjl',Bb5 hjl,Bb5 hjl',M3 hj (show n≤4611686018427387904 by omega)]
   rw[btD (J7 hj),bt (q8 hj),bt (q8 (show j - 1 < n by omega)),bt (q8 (show j < n+1 by omega))]
   simp only[L2]
   rw[show ((gL tP l j).n.x==(gL tP l (j - 1)).n.x&&((gL tP l j).n.y==(gL tP l (j - 1)).n.y&&((gL tP l j).n.z==(gL tP l (j - 1)).n.z&&((gL tP l j).b==(gL tP l (j - 1)).b&&true))))=eqP (gL tP l j) (gL tP l (j - 1)) from rfl]
   cases he:eqP (gL tP l j) (gL tP l (j - 1)) with
   | false=>exact .nx ⟨(),rfl,by omega,by omega,i2 he⟩
   | true =>
    obtain⟨m',cur',k',e2,e3,e4,e5⟩:=inner j hj hj1 (i1 he)
    rw[e2]
    simp only[q8 (show m' < n+1 by omega)]
    exact .ex (.inl ⟨rfl,j,rfl,hj,hj1,i1 he⟩)
  ·obtain⟨hj1,hjn,hR⟩:=hx
   refine⟨2,?_,.inr ⟨rfl,?_⟩⟩
   ·simp only[H7,G6]
    rw[bfD (by omega)]
   ·have:j=n:=by omega
    subst this
    rw[List.drop_eq_nil_of_le (by rw[List.length_take];omega)] at hR
    unfold ddF at hR
    rw[List.append_nil] at hR
    exact hR
theorem cd7 (l:List Pln) (n:Nat) (hn:n≤l.length):slR tP (bL tP l) 0 n=l.take n:=Sb2 tP (by rw[List.length_take];omega) fun k hk=>by
 rw[Nat.zero_add,ia2 tP (by omega)]
 congr 1
 simp[gL,List.getD_eq_getElem?_getD,List.getElem?_take,hk]
theorem cd8 (l:List Pln) (n:Nat) (hn:n≤l.length):okS tP (bL tP l) 0 n=true:=tb0 tP (f:=fun k=>gL tP l k) fun k hk=>by rw[Nat.zero_add,ia2 tP (by omega)]
noncomputable def lean (c:List Pln):List Pln:=if ful c then dd (cb7 (c.filter (keep (pts c)))) else []
theorem Mc6 (p:Pln) (c:List Pln) (hc:c.length≤1000000):Rd (one (r1L tP)) (Ca7 (p,c)) (fun r=>r=lean (p::c)):=by
 have hl:(p::c).length≤1000000000:=by simp only[List.length_cons];omega
 have hX:=nc8 (p::c)
 unfold Ca7 lean
 simp only[E5,fa6,G3,zd0,zd1,kb5 hl,kb6 hl,kb3 hl,kb4 hl]
 cases hf:ful (p::c) with
 | false=>exact⟨_,[],rfl,rfl,rfl⟩
 | true =>
  have ec:o8 (fun k=>tP.row (gL tP (p::c) k)) (List.range (c.length+1))=bL tP (p::c):=tc4 tP (p::c)
  have hcl:ba4 (p,c)=⟨1,(p::c).length,bL tP (p::c)⟩:=by
   unfold ba4 K6
   simp only[ec,ua0]
   have z:Nat.beq (p::c).length 0=false:=rfl
   have r:Nat.ble ((0+(p::c).length)*32) room=true:=yb4 (by simp only[List.length_cons];omega)
   rw[z,r,Nat.zero_add]
   rfl
  obtain⟨m,r,e1,e2,e3,e4⟩:=Sc9 (p::c) (pts (p::c)) hl (by omega)
  have hm:m≤(p::c).length:=by
   have h1:=congrArg List.length e3
   have h2:=List.length_filter_le (keep (pts (p::c))) (p::c)
   rw[List.length_take] at h1
   omega
  have hs:(cb7 (r.take m)).length=m:=by rw[hc6,List.length_take];omega
  have hrows:app (bL tP (cb7 (r.take m))) (j8 (bL tP r) m)=bL tP (cb7 (r.take m)++r.drop m):=by rw[oc9,Ya4]
  have hok:okL tP (c.length+1) (fun k=>tP.row (gL tP (p::c) k))=true:=tb0 tP (f:=fun k=>gL tP (p::c) k) fun _ _=>rfl
  simp only[hcl,e1,cd7 r m e2,cd8 r m e2,hrows,hok]
  obtain⟨m2,r2,k1,k2,k3⟩:=Hc6 (cb7 (r.take m)++r.drop m) m (by rw[List.length_append,hs];omega) (by rw[List.length_append,hs,List.length_drop,e4];omega)
  rw[k1,ua0]
  have q1:Nat.ble m room=true:=by rw[Nat.ble_eq];unfold room;simp only[List.length_cons] at hm;omega
  have q2:Nat.ble m r.length=true:=by rw[Nat.ble_eq];exact e2
  rw[q1,q2]
  have hfin:r2.take m2=dd (cb7 ((p::c).filter (keep (pts (p::c))))):=by
   rw[k3,List.take_append_of_le_length (by rw[hs];omega),List.take_of_length_le (by rw[hs];omega),e3]
  exact vd5 k2 rfl hfin
theorem vd6 (p:Pln) (c:List Pln) (hc:c.length≤1000000):lb3 (p,c)=lean (p::c):=(Mc6 p c hc).p
theorem vd7 (p:Pln) (c:List Pln) (hc:c.length≤1000000):lb4 (p,c)=true:=(Mc6 p c hc).g
end Go.Ev.Ce
