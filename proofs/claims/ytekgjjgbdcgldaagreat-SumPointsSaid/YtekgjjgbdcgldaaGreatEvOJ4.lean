/- Own work: a part of the proof. -/
import Derived.Test.YtekgjjgbdcgldaaGreatEvOE6
import Derived.Test.YtekgjjgbdcgldaaGreatEvODL
set_option linter.unusedVariables false
set_option linter.unusedSimpArgs false
set_option linter.unnecessarySimpa false
set_option linter.unusedSectionVars false
namespace Go.Ev.Ce
open Go Go.Ev Go.Ev.L Go.Proofs
theorem Pe8 (x:List Pln) (y:Pln) (hx:x.length≤1000000):sa3 x y=true:=(We1 x y hx).g
structure Fc (ph:Nat) (out:List Pln) (m:Nat):Prop where
 h:(ph=0∧out=[])∨ph=1
 l:out.length≤m
theorem Fc.more {ph m m':Nat} {out:List Pln} (h:Fc ph out m) (hm:m≤m'):Fc ph out m':=⟨h.h,Nat.le_trans h.l hm⟩
theorem We2 (l:List Pln) (n:Int):(two (r1L tP) r1I).rd (.tup [eL tP l,i n],[])=some (l,n):=by
 have h:(r1L tP).rd [] (eL tP l)=some l:=by
  show Bool.rec (motive:=fun _=>Option (List Pln)) none (some (rt tP l)) (Bool.and (Nat.beq tP.es tP.es) (okE tP l))=_
  rw[j8,N6,Nat.beq_refl]
  rfl
 simp only[two,h]
 rfl
def phV (out:List V3):Nat:=match out with
 | []=>0
 | _::_=>1
theorem ae0 (out:List V3) (x:V3):phV (out++[x])=1:=by cases out<;>rfl
theorem fc3 (l:List V3) (x1 x2 x3:Int):app (bL tV l) [[i x1,i x2,i x3]]=bL tV (l++[⟨x1,x2,x3⟩]):=Fa5 tV l [⟨x1,x2,x3⟩]
theorem gf4 {l:List V3} {m:Nat} (h:m < l.length):(((Nat.blt (0+m) (len (bL tV l)))&&(Nat.ble (0+3) (len (e8 (bL tV l) (0+m)))))&&(K6 [(CK.int .i64),(CK.int .i64),(CK.int .i64)] (d9 (e8 (bL tV l) (0+m)) 0)))=true:=by
 rw[Nat.zero_add,da1 tV h,ga2,show Nat.blt m l.length=true from by rw[Nat.blt_eq];exact h]
 rfl
theorem gf5 {l:List V3} {m:Nat} (h:m < l.length):(((Nat.blt (0+m) (len (bL tV l)))&&(Nat.ble (2+1) (len (e8 (bL tV l) (0+m)))))&&(K6 [(CK.int .i64)] (d9 (e8 (bL tV l) (0+m)) 2)))=true:=by
 rw[Nat.zero_add,da1 tV h,ga2,show Nat.blt m l.length=true from by rw[Nat.blt_eq];exact h]
 rfl
theorem Hd5 {n:Nat} {l:List V3} (hn:l.length=n) (h:n≤1000000000):(Nat.beq n (len (bL tV l))&&Nat.ble ((n+1)*24) room)=true:=by
 subst hn
 rw[ga2,Nat.beq_refl,Bool.true_and,Nat.ble_eq]
 unfold room
 omega
theorem He0 (x : List Int) (N : Nat) (h4 : 4 ≤ N) (h8 : N ≤ 8) (j0 : Int) (hj0 : 0 ≤ j0 ∧ j0 ≤ 10) :
  ∃ idx out,lp (Da6 ⟨(N:Int)⟩) ⟨0,0,x,j0,0,[]⟩=(2,⟨1,(N:Int),x,idx,N,bL tV out⟩)∧out.length=N:=by
 have key:=F5 (step:=Da6 ⟨(N:Int)⟩) (mk:=fun j (a:Int×List V3)=>(⟨phV a.2,(j:Int),x,a.1,a.2.length,bL tV a.2⟩:z8)) N
  (fun j a=>a.2.length=j∧0≤a.1∧a.1≤10+4*j∧j≤N) (fun t s=>t=2∧∃ idx out,s=⟨1,(N:Int),x,idx,N,bL tV out⟩∧out.length=N) (by omega) (fun j a hj ha=>?_) (fun j a hj ha=>?_) 0 (j0,[]) ⟨rfl,hj0.1,by omega,by omega⟩
 ·obtain⟨t,s,e1,rfl,idx,out,e2,e3⟩:=key
  exact⟨idx,out,by rw[← e2];exact e1,e3⟩
 ·obtain⟨at0,out⟩:=a
  obtain⟨ho,ha1,ha2,_⟩:=ha
  simp only at ho ha1 ha2
  have hn:=o6 hj (show N≤4611686018427387904 by omega)
  obtain⟨v1,j1,d1,_,_,c1,b1⟩:=ab4 17 x at0 ha1 (by omega) (by omega) (by omega)
  obtain⟨v2,j2,d2,_,_,c2,b2⟩:=ab4 17 x j1 (by omega) (by omega) (by omega) (by omega)
  obtain⟨v3,j3,d3,_,_,c3,b3⟩:=ab4 17 x j2 (by omega) (by omega) (by omega) (by omega)
  obtain⟨v4,j4,d4,_,_,c4,b4⟩:=ab4 6 x j3 (by omega) (by omega) (by omega) (by omega)
  have leaf : ∀ (E : Nat → Prop) (x1 x2 x3 : Int), Nx (.next (⟨1, ((j + 1 : Nat) : Int), x, j4, j + 1, bL tV (out ++ [⟨x1, x2, x3⟩])⟩ : z8)) E
    (fun s=>∃ a':Int×List V3,s=⟨phV a'.2,((j+1:Nat):Int),x,a'.1,a'.2.length,bL tV a'.2⟩∧a'.2.length=j+1∧0≤a'.1∧a'.1≤10+4*((j+1:Nat):Int)∧j+1≤N):=fun E x1 x2 x3=>by
   have hl:(out++[(⟨x1,x2,x3⟩:V3)]).length=j+1:=by simp[ho]
   exact .nx ⟨(j4,out++[⟨x1,x2,x3⟩]),by simp only[ae0,hl],hl,by show 0≤j4;omega,by show j4≤_;omega,by omega⟩
  cases out with
  | nil =>
   have hj0':j=0:=by simpa using ho.symm
   subst hj0'
   show Nx (na1 Stp.next Stp.exit Stp.fail _ _) _ _
   simp only[na1,j8,j7,d1,d2,d3,d4,hn]
   rw[btD (i8 hj)]
   have f1:decide (((0:Nat):Int) > 1)=false:=rfl
   have f2:decide (((0:Nat):Int) > 0)=false:=rfl
   have f3:decide (((0:Nat):Int) > 2)=false:=rfl
   have lf:∀ (E:Nat→Prop) (x1 x2 x3:Int),Nx (.next (⟨1,((0+1:Nat):Int),x,j4,1,[[i x1,i x2,i x3]]⟩:z8)) E _:=leaf
   simp only[f1,f2,f3,Db6,Nat.beq_refl,Bool.and_true,q8]
   refine Nx.sl (fun _=>?_) (fun _=>?_)<;>refine Nx.sl (fun _=>?_) (fun _=>?_)
   all_goals first
    | exact lf _ _ _ _
    | (refine Nx.sl (fun _=>?_) (fun _=>?_)<;>exact lf _ _ _ _)
  | cons o os =>
   have h1:1≤j:=by simp only[List.length_cons] at ho;omega
   generalize hO:o::os=O at *
   have hph:phV O=1:=by subst hO;rfl
   have w1:W ((j:Int) - 1)=((j - 1:Nat):Int):=by rw[ka8 (by omega) (by omega)];omega
   have i1:inB ((j - 1:Nat):Int) j=true:=f7 (by omega)
   have r1:=gf4 (l:=O) (m:=j - 1) (by omega)
   have r1':=gf5 (l:=O) (m:=j - 1) (by omega)
   have rr:=Hd5 ho (by omega)
   have f2:∀ {inst:Decidable ((j:Int) > 0)},@decide ((j:Int) > 0) inst=true:=decide_eq_true (by omega)
   show Nx (sel (Nat.beq (phV O) 1) (I6 Stp.next Stp.exit Stp.fail _ _) _) _ _
   rw[hph]
   show Nx (I6 Stp.next Stp.exit Stp.fail _ _) _ _
   by_cases h2:2≤j
   ·have w2:W ((j:Int) - 2)=((j - 2:Nat):Int):=by rw[ka8 (by omega) (by omega)];omega
    have i2:inB ((j - 2:Nat):Int) j=true:=f7 (by omega)
    have r2:=gf4 (l:=O) (m:=j - 2) (by omega)
    simp only[I6,j8,j7,d1,d2,d3,d4,hn,ho,w1,w2,i1,i2,Int.toNat_natCast,r1,r1',r2,rr,fc3]
    rw[btD (i8 hj)]
    simp only[Nat.beq_refl,Bool.and_true,q8]
    repeat' (first | exact leaf _ _ _ _ | refine Nx.sl (fun _=>?_) (fun _=>?_))
   ·have hj1:j=1:=by omega
    subst hj1
    simp only[I6,j8,j7,d1,d2,d3,d4,hn,ho,w1,i1,Int.toNat_natCast,r1,r1',rr,fc3]
    have f1:decide (((1:Nat):Int) > 1)=false:=rfl
    rw[btD (i8 hj)]
    simp only[f1,Db6,Nat.beq_refl,Bool.and_true,q8]
    repeat' (first | exact leaf _ _ _ _ | refine Nx.sl (fun _=>?_) (fun _=>?_))
 ·obtain⟨at0,out⟩:=a
  obtain⟨ho,ha1,ha2,hjN⟩:=ha
  simp only at ho ha1 ha2
  have hj':j=N:=by omega
  subst hj'
  cases out with
  | nil=>simp only[List.length_nil] at ho;omega
  | cons o os =>
   refine⟨2,?_,rfl,at0,o::os,by rw[ho];rfl,ho⟩
   show I6 Stp.next Stp.exit Stp.fail _ _=_
   simp only[I6]
   rw[bfD (by omega)]
theorem Sd7 {l:List V3} {n:Nat} {r:List (List b7)} {P:List V3→Prop} (hn:n=l.length) (hr:r=bL tV l) (h:P l):Rd (one (r1L tV)) (some (.sl 0 0 n 0,[⟨27,3,r,true,false,0⟩])) P:=by
 subst hn hr
 refine⟨_,l,rfl,?_,h⟩
 show Bool.rec (motive:=fun _=>Option (List V3)) none (some (slR tV (bL tV l) 0 l.length)) (Bool.and true (okS tV (bL tV l) 0 l.length))=_
 rw[cb7,mb3]
 rfl
theorem ld4 (x:List Int):Rd (one (r1L tV)) (Ja4 x) (fun r=>4≤r.length∧r.length≤8):=by
 obtain⟨v,j,e1,a1,b1,c1,d1⟩:=ab4 5 x 0 (by omega) (by omega) (by omega) (by omega)
 have hN:W (4+v)=(((4+v).toNat:Nat):Int):=by rw[ka8 (by omega) (by omega)];omega
 obtain⟨idx,out,e2,e3⟩:=He0 x (4+v).toNat (by omega) (by omega) j (by omega)
 unfold Ja4
 simp only[j8,j7,e1,hN,e2]
 have h4:4≤(4+v).toNat:=by omega
 have h8:(4+v).toNat≤8:=by omega
 generalize (4+v).toNat=N at *
 have s1:lsL tV N (fun k=>e8 (bL tV out) (0+k))=out:=by rw[← e3];exact cb7 tV out
 have s2:okL tV N (fun k=>e8 (bL tV out) (0+k))=true:=by rw[← e3];exact mb3 tV out
 have gf:Pa1 out=true:=Sd5 out (by omega)
 rw[s1,s2,gf]
 simp only[Nat.beq_refl,Bool.and_true,q8,show Nat.beq 2 1=false from rfl,Db6]
 refine Rd.sl (fun _=>?_) fun _=>Sd7 e3.symm rfl ⟨by omega,by omega⟩
 have i0:inB 0 N=true:=f7 (j:=0) (by omega)
 have i1:inB 1 N=true:=f7 (j:=1) (by omega)
 have i2:inB 2 N=true:=f7 (j:=2) (by omega)
 have i3:inB 3 N=true:=f7 (j:=3) (by omega)
 have sp:∀ (v:V3) (x1 x2 x3:Int),S4 (tV.row v) 0 [i x1,i x2,i x3]=tV.row ⟨x1,x2,x3⟩:=fun _ _ _ _=>rfl
 have rl:∀ v:V3,Nat.ble (0+3) (len (tV.row v))=true:=fun _=>rfl
 have ck:∀ v:V3,K6 [(CK.int .i64),(CK.int .i64),(CK.int .i64)] (d9 (tV.row v) 0)=true:=fun _=>rfl
 have gr:∀ (l:List V3) (k:Nat),l.length=N→k < 4→e8 (bL tV l) k=tV.row (gL tV l k):=fun l k hl hk=>da1 tV (by omega)
 have bl:∀ (l:List V3) (k:Nat),l.length=N→k < 4→Nat.blt k (len (bL tV l))=true:=fun l k hl hk=>by rw[ga2,Nat.blt_eq];omega
 have ls:∀ (l:List V3) (k:Nat) (v:V3),l.length=N→(l.set k v).length=N:=fun l k v hl=>by rw[List.length_set];exact hl
 rw[gr out 0 e3 (by omega),gr out 1 e3 (by omega)]
 simp only[sp,Db8]
 rw[gr _ 2 (ls out 1 _ e3) (by omega)]
 simp only[sp,Db8]
 rw[gr _ 3 (ls _ 2 _ (ls out 1 _ e3)) (by omega)]
 simp only[sp,Db8,rl,ck,i0,i1,i2,i3,bl out 0 e3 (by omega),bl out 1 e3 (by omega),bl _ 2 (ls out 1 _ e3) (by omega),bl _ 3 (ls _ 2 _ (ls out 1 _ e3)) (by omega),Bool.and_true,q8]
 exact Sd7 (by simp only[List.length_set];omega) rfl (by simp only[List.length_set];omega)
theorem te9 (x:List Int):Ya9 x=true:=(ld4 x).g
theorem Hd6 (x:List Int):4≤(N9 x).length∧(N9 x).length≤8:=(ld4 x).p
end Go.Ev.Ce
namespace Go.Ev.Ce
open Go Go.Ev Go.Ev.L Go.Proofs
theorem We3 {α:Type} (t:Ty α) (k:Nat) (l:List α):(one (r1L t)).rd (.sl 0 0 l.length 0,[⟨k,t.es,bL t l,true,false,0⟩])=some l:=by
 show Bool.rec (motive:=fun _=>Option (List α)) none (some (slR t (bL t l) 0 l.length)) (Bool.and (Nat.beq t.es t.es) (okS t (bL t l) 0 l.length))=_
 rw[cb7,mb3,Nat.beq_refl]
 rfl
end Go.Ev.Ce
namespace Go.Ev.Ce
open Go Go.Ev Go.Ev.L Go.Proofs
theorem qc1 (v:V3):ua9 v=inV v∧va0 v=true:=by
 have h3:[v.x,v.y,v.z].length≤1000000000:=by simp
 have:db5 v=some (b (inV v),[]):=by
  unfold db5 inV
  simp only[sb0 24 _ (by omega) h3,sb1 24 _ (by omega) h3,q8]
  simp only[List.all_cons,List.all_nil,Bool.and_true]
 unfold ua9 va0
 rw[this]
 exact⟨rfl,rfl⟩
noncomputable def has (c:List Pln) (v:V3):Bool:=(chk c==0)&&(inV v&&inn c ⟨v.x,v.y,v.z,1⟩)
noncomputable def apart (a c:List Pln):Bool:=!((chk a==0)&&(chk c==0))||!rf8 (a++c++ws)
end Go.Ev.Ce
namespace Go.Ev.Ce
open Go Go.Ev Go.Ev.L Go.Proofs
noncomputable def onc (X:List Pt) (p:Pln):Nat:=X.countP fun x=>rm p x==0
noncomputable def keep (X:List Pt) (p:Pln):Bool:=!decide ((onc X p:Int) < 3)
theorem fc4 {α:Type} (c:α→Bool):∀ l:List α,(l.take (l.findIdx c)).filter (fun x=>!c x)=l.take (l.findIdx c)
 | []=>rfl
 | x::l=>by
  rw[List.findIdx_cons]
  cases h:c x with
  | true=>rfl
  | false =>
   simp only[cond_false,List.take_succ_cons,List.filter_cons,h,Bool.not_false,if_true]
   rw[fc4 c l]
theorem Sd8 {α:Type} (l:List α) (j:Nat) (h:j < l.length):l.take (j+1)=l.take j++[l[j]]:=by rw[List.take_succ_eq_append_getElem h]
theorem za0 {α:Type} (t:Ty α) {l:List α} {j:Nat} (h:j < l.length):l.take (j+1)=l.take j++[gL t l j]:=by rw[Sd8 l j h,kb7 t h]
theorem qc2 {α:Type} (t:Ty α) {l r:List α} {j:Nat} (h:l.drop j=r.drop j):gL t l j=gL t r j:=by
 have h1:=Hc2 t l j 0
 have h2:=Hc2 t r j 0
 rw[Nat.add_zero] at h1 h2
 rw[← h1,← h2,h]
theorem fc5 {α:Type} {l r:List α} {j:Nat} (h:l.drop j=r.drop j) (k:Nat):l.drop (j+k)=r.drop (j+k):=by rw[← List.drop_drop,← List.drop_drop,h]
structure Del (l:List Pln) (f:Pln→Bool) (cur:List Pln) (m j:Nat):Prop where
 len:cur.length=l.length
 t:cur.take m=(l.take j).filter f
 d:cur.drop j=l.drop j
 le:m≤j
 lm:m≤l.length
theorem He1 (l:List Pln) (n:Nat):d9 (bL tP l) n=bL tP (l.drop n):=by unfold bL;rw[F9,o1,o1,List.map_drop]
def eqP (x y:Pln):Bool:=x.n.x==y.n.x&&(x.n.y==y.n.y&&(x.n.z==y.n.z&&(x.b==y.b&&true)))
theorem fc6 (x y:Pln):eqP x y=true↔x=y:=by
 unfold eqP
 simp only[Bool.and_true,Bool.and_eq_true,beq_iff_eq]
 refine⟨fun⟨h1,h2,h3,h4⟩=>?_,fun h=>by subst h;exact⟨rfl,rfl,rfl,rfl⟩⟩
 obtain⟨⟨x1,x2,x3⟩,x4⟩:=x
 obtain⟨⟨y1,y2,y3⟩,y4⟩:=y
 simp only at h1 h2 h3 h4
 subst h1 h2 h3 h4
 rfl
def ddF:Pln→List Pln→List Pln
 | _,[]=>[]
 | a,x::l=>if eqP x a then ddF x l else x::ddF x l
def dd:List Pln→List Pln
 | []=>[]
 | x::l=>x::ddF x l
structure Cmp (l:List Pln) (n:Nat) (cur:List Pln) (m j:Nat) (R:List Pln):Prop where
 len:cur.length=l.length
 t:cur.take m++ddF (gL tP l (j - 1)) ((l.take n).drop j)=R
 d:cur.drop (j - 1)=l.drop (j - 1)
 le:m+1≤j
theorem ue0 (l:List Pln) (n:Nat) (hn:n≤l.length):slR tP (bL tP l) 0 n=l.take n:=jc7 tP (by rw[List.length_take];omega) fun k hk=>by
 rw[Nat.zero_add,da1 tP (by omega)]
 congr 1
 simp[gL,List.getD_eq_getElem?_getD,List.getElem?_take,hk]
theorem ue1 (l:List Pln) (n:Nat) (hn:n≤l.length):okS tP (bL tP l) 0 n=true:=Va2 tP (f:=fun k=>gL tP l k) fun k hk=>by rw[Nat.zero_add,da1 tP (by omega)]
end Go.Ev.Ce
namespace Go.Ev.Ce
open Go Go.Ev Go.Ev.L Go.Proofs Go.Sort
theorem Tc2 (l:List Pln):List.Perm (Qb8 l) l:=List.mergeSort_perm l _
theorem he8 (x y z:Pln) (h1:(!ltOf ia2 y x)=true) (h2:(!ltOf ia2 z y)=true):(!ltOf ia2 z x)=true:=by
 simp only[Bool.not_eq_true',Oa6,decide_eq_false_iff_not] at *
 unfold LtP at *
 omega
theorem he9 (x y:Pln):((!ltOf ia2 y x)||!ltOf ia2 x y)=true:=by
 simp only[Bool.or_eq_true,Bool.not_eq_true',Oa6,decide_eq_false_iff_not]
 unfold LtP
 omega
theorem ud3 (l:List Pln):(Qb8 l).Pairwise fun x y=>(!ltOf ia2 y x)=true:=List.pairwise_mergeSort he8 he9 l
instance:DecidableEq Pln:=fun x y=>decidable_of_iff _ (fc6 x y)
def PC:List Pt:=[⟨0,0,0,1⟩,⟨0,0,1,4⟩,⟨0,1,0,3⟩,⟨1,0,0,2⟩]
end Go.Ev.Ce
section
namespace Go.Ev.Ce
open Go Go.Ev Go.Ev.L Go.Proofs
set_option maxRecDepth 100000
structure Pb0 where
structure Ib1 where
structure Ib2 where
structure Pb1 where
 alt:Nat
structure qc3 where
structure fc7 where
structure fc8 where
structure qc4 where
 alt:Nat
structure ed0 where
structure ed1 where
 alt:Nat
structure Yc4 where
 da9:List Pt
structure Hc3 where
 da9:List Pt
structure Hc4 where
structure Yc5 where
 alt:Nat
 da9:List Pt
structure Tc3 where
 da9:List Pt
structure Tc4 where
 alt:Nat
 da9:List Pt
structure ld5 where
structure ld6 where
structure yd3 where
structure yd4 where
end Go.Ev.Ce
end
section
namespace Go.Ev.Ce
open Go Go.Ev Go.Ev.L Go.Proofs
set_option maxRecDepth 100000
noncomputable def Sb4:List (Nat×Sum):=[(68,Da5),(69,kd7)]
theorem Tc5:j9 prog G Sb4:=⟨Oa8,Sd0,trivial⟩
structure W8 where
 is1:Int
structure u9 where
 ph:Nat
 is7:Int
 f9:List Int
 b8:Int
 ns6:Nat
 eh1:List (List b7)
noncomputable def qc5 (p:W8) (s:u9):St:=⟨(.unk::((i p.is1)::(ra 3 ((.ptr 0 0 0 0)::((.v (.slice none 0 0))::((i s.is7)::(ra 19 []))))))),[⟨0,2,[[(eL tI s.f9),(i s.b8)]],true,false,0⟩]⟩
noncomputable def qc6 (p:W8) (s:u9):St:=⟨(.unk::((i p.is1)::(ra 3 ((.ptr 0 0 0 0)::((.sl 1 0 s.ns6 0)::((i s.is7)::(ra 19 []))))))),[⟨0,2,[[(eL tI s.f9),(i s.b8)]],true,false,0⟩,⟨27,3,s.eh1,true,false,0⟩]⟩
noncomputable def Cc4 (p:W8) (s:u9):St:=(sel (Nat.beq s.ph 1) (qc6 p s) (qc5 p s))
noncomputable def na4 {α:Type} (k:u9→α) (e:Nat→α) (z:α) (p:W8) (s:u9):α:=let t1:=(p4 ⟨4,(rt tI s.f9),s.b8⟩);let t2:=(qb7 ⟨(toI (hdA (d9 (e8 [[(i 8)],[(i 8)],[(i 3)],[(i 24)]] (0+t1.is0.toNat)) 0))),(rt tI (rt tI s.f9)),t1.b8⟩);(sl (decide (s.is7 < p.is1)) (sl ((cnE tI s.f9)&&true) (sl (Nat.beq t1.alt 1) (sl (inB t1.is0 4) (sl (((Nat.blt (0+t1.is0.toNat) (len [[(i 8)],[(i 8)],[(i 3)],[(i 24)]]))&&(Nat.ble (0+1) (len (e8 [[(i 8)],[(i 8)],[(i 3)],[(i 24)]] (0+t1.is0.toNat)))))&&(K6 [(CK.int .i64)] (d9 (e8 [[(i 8)],[(i 8)],[(i 3)],[(i 24)]] (0+t1.is0.toNat)) 0))) (sl ((cnE tI (rt tI s.f9))&&true) (sl (Nat.beq t2.alt 1) (k ⟨1,(W (s.is7+1)),t2.f9,t2.b8,1,[[(i t2.fa6),(i t2.fa7),(i t2.fa8)]]⟩) z) z) z) z) z) z) (e 1))
noncomputable def T6 {α:Type} (k:u9→α) (e:Nat→α) (z:α) (p:W8) (s:u9):α:=let t1:=(p4 ⟨4,(rt tI s.f9),s.b8⟩);let t2:=(qb7 ⟨(toI (hdA (d9 (e8 [[(i 8)],[(i 8)],[(i 3)],[(i 24)]] (0+t1.is0.toNat)) 0))),(rt tI (rt tI s.f9)),t1.b8⟩);(sl (decide (s.is7 < p.is1)) (sl ((cnE tI s.f9)&&true) (sl (Nat.beq t1.alt 1) (sl (inB t1.is0 4) (sl (((Nat.blt (0+t1.is0.toNat) (len [[(i 8)],[(i 8)],[(i 3)],[(i 24)]]))&&(Nat.ble (0+1) (len (e8 [[(i 8)],[(i 8)],[(i 3)],[(i 24)]] (0+t1.is0.toNat)))))&&(K6 [(CK.int .i64)] (d9 (e8 [[(i 8)],[(i 8)],[(i 3)],[(i 24)]] (0+t1.is0.toNat)) 0))) (sl ((cnE tI (rt tI s.f9))&&true) (sl (Nat.beq t2.alt 1) (sl (Nat.beq s.ns6 (len s.eh1)&&Nat.ble ((s.ns6+1)*24) room) (k ⟨1,(W (s.is7+1)),t2.f9,t2.b8,(s.ns6+1),(app s.eh1 [[(i t2.fa6),(i t2.fa7),(i t2.fa8)]])⟩) z) z) z) z) z) z) z) (e 2))
noncomputable def Ea7 (p:W8) (s:u9):Stp u9:=(sel (Nat.beq s.ph 1) (T6 .next .exit .fail p s) (na4 .next .exit .fail p s))
noncomputable def gb7:Lo W8 u9:=⟨En Sb4,0,bf5,[1,1,1,0,1,4,4],[1,5,6,7],.p,[⟨((.s (.o .unk))::((.s (.o (.int .i64)))::(ru2 3 ((.s (.o (.ptr 0 0 0 0)))::((.s (.o .nil))::((.s (.o (.int .i64)))::(ru2 19 []))))))),[⟨0,2,true,(some [[(.c 1 (nL tI)),(.o (.int .i64))]])⟩],fun a H=>(⟨(toI (slT a 1))⟩,⟨0,(toI (slT a 7)),(rL tI (slT (rwT (elT H 0) 0) 0)),(toI (slT (rwT (elT H 0) 0) 1)),0,[]⟩)⟩,⟨((.s (.o .unk))::((.s (.o (.int .i64)))::(ru2 3 ((.s (.o (.ptr 0 0 0 0)))::((.s (.o (.sl 1 0 (some 0) none)))::((.s (.o (.int .i64)))::(ru2 19 []))))))),[⟨0,2,true,(some [[(.c 1 (nL tI)),(.o (.int .i64))]])⟩,⟨27,3,true,none⟩],fun a H=>(⟨(toI (slT a 1))⟩,⟨1,(toI (slT a 7)),(rL tI (slT (rwT (elT H 0) 0) 0)),(toI (slT (rwT (elT H 0) 0) 1)),(slN (slT a 6)),(elT H 1)⟩)⟩],Ea7,[(some 0,fun p s=>⟨(.unk::((i p.is1)::(ra 3 ((.ptr 0 0 0 0)::((.v (.slice none 0 0))::((i s.is7)::(ra 3 ((i s.is7)::((i p.is1)::((b (decide (s.is7 < p.is1)))::(ra 13 []))))))))))),[⟨0,2,[[(eL tI s.f9),(i s.b8)]],true,false,0⟩]⟩),(some 0,fun p s=>⟨(.unk::((i p.is1)::(ra 3 ((.ptr 0 0 0 0)::((.sl 1 0 s.ns6 0)::((i s.is7)::(ra 3 ((i s.is7)::((i p.is1)::((b (decide (s.is7 < p.is1)))::(ra 13 []))))))))))),[⟨0,2,[[(eL tI s.f9),(i s.b8)]],true,false,0⟩,⟨27,3,s.eh1,true,false,0⟩]⟩)],Cc4⟩
theorem Cc5:gb7.Ok:=Lo.ok [] (by kernel_rfl) .nil rfl (.cons (fun a H=>by kernel_rfl) (.cons (fun a H=>by kernel_rfl) .nil)) fun p s=>(.sel (Nat.beq s.ph 1) (.of @T6 (fun F _ _ _ _ _=>by unfold T6;(repeat' apply k8 (f:=F))<;>rfl) (by kernel_rfl)) (.of @na4 (fun F _ _ _ _ _=>by unfold na4;(repeat' apply k8 (f:=F))<;>rfl) (by kernel_rfl)))
noncomputable def La6 (x:List Int) (y:Int):Option (b7×List c7):=let t1:=(lp (Ea7 (⟨y⟩:W8)) (⟨0,0,(rt tI x),0,0,[]⟩:u9));(sl ((cnE tI x)&&true) (sl (Nat.beq t1.1 1) (some ((.v (.slice none 0 0)),[])) (sl (Nat.beq t1.1 2) (some ((.sl 0 0 t1.2.ns6 0),[⟨27,3,t1.2.eh1,true,false,0⟩])) none)) none)
noncomputable def xb3 (x:List Int) (y:Int):List V3:=M4 (one (r1L tV)) (La6 x y)
noncomputable def xb4 (x:List Int) (y:Int):Bool:=okO (one (r1L tV)) (La6 x y)
noncomputable def fc9:Sum:=ga1 (oa4 tI) cI (fun x y=>.guard (xb4 x y) (.ret ((one (r1L tV)).enc (xb3 x y),[])))
theorem ed2:g9 prog G 26 fc9:=Oa2 (bd b26 Tc5) (one (r1L tV)) (o:=La6) fun x y=>xa9 (.s .p (.s .p (.s .p (.s (.s .p (.b (.u gb7.ls))) .p)))) [gb7.pr] (by kernel_rfl) (.cons Cc5 .nil) (by kernel_rfl)
structure He2 where
 i9:List Pln
 Ae4:List Pt
 is5:Int
 zb7:List Pln
structure He3 where
 ph:Nat
 is6:Int
 is7:Int
structure He4 where
structure He5 where
 ph:Nat
 i9:List Pln
 Ae4:List Pt
 is5:Int
 zb7:List Pln
end Go.Ev.Ce
end
namespace Go.Ev.Ce
open Go Go.Ev Go.Ev.L Go.Proofs
theorem He6 (p q:Pln):ka1 p q=some (i (ia2 p q),[]):=by
 have key:∃ t s,lp (D5 ⟨p.n.x,p.n.y,p.n.z,p.b,q.n.x,q.n.y,q.n.z,q.b⟩) ⟨0⟩=(t,s)∧((t=1∧ia2 p q=-1)∨(t=2∧ia2 p q=1)∨(t=3∧ia2 p q=0)):=by
  refine F5 (step:=D5 ⟨p.n.x,p.n.y,p.n.z,p.b,q.n.x,q.n.y,q.n.z,q.b⟩) (mk:=fun j (_:Unit)=>(⟨(j:Int)⟩:M0)) 4
   (fun j _=>(1≤j→p.n.x=q.n.x)∧(2≤j→p.n.y=q.n.y)∧(3≤j→p.n.z=q.n.z)∧(4≤j→p.b=q.b))
   (fun t s=>(t=1∧ia2 p q=-1)∨(t=2∧ia2 p q=1)∨(t=3∧ia2 p q=0)) (by omega) (fun j x hj hI=>?_) (fun j x hj hI=>?_) 0 () ⟨by omega,by omega,by omega,by omega⟩
  ·have hn:=o6 hj (show 4≤4611686018427387904 by omega)
   simp only[D5,N8,Int.toNat_natCast,hn]
   have hlt:(j:Int) < 4:=by omega
   have hin:=f7 hj
   have g:∀ x1 x2 x3 x4:Int,((Nat.ble ((0+(j*1))+1) 4)&&(K6 [(CK.int .i64)] (d9 [(i x1),(i x2),(i x3),(i x4)] (0+(j*1)))))=true:=by
    intro x1 x2 x3 x4
    match j,hj with
    | 0,_=>rfl
    | 1,_=>rfl
    | 2,_=>rfl
    | 3,_=>rfl
   rw[btD hlt]
   simp only[hin,g,q8]
   obtain⟨i1,i2,i3,i4⟩:=hI
   match j,hj with
   | 0,_ =>
    show Nx (sl (decide (p.n.x < q.n.x)) _ (sl (decide (p.n.x > q.n.x)) _ _)) _ _
    refine Nx.sl (fun h=>.ex ?_) fun h=>Nx.sl (fun h'=>.ex ?_) fun h'=>.nx ⟨(),rfl,?_⟩<;>simp only[decide_eq_true_eq,decide_eq_false_iff_not] at h
    ·left;exact⟨rfl,by simp[ia2,Ha6,h]⟩
    ·right;left;simp only[decide_eq_true_eq] at h';exact⟨rfl,by simp[ia2,Ha6,h,h']⟩
    ·simp only[decide_eq_false_iff_not] at h';exact⟨by omega,by omega,by omega,by omega⟩
   | 1,_ =>
    have j1:=i1 (by omega)
    show Nx (sl (decide (p.n.y < q.n.y)) _ (sl (decide (p.n.y > q.n.y)) _ _)) _ _
    refine Nx.sl (fun h=>.ex ?_) fun h=>Nx.sl (fun h'=>.ex ?_) fun h'=>.nx ⟨(),rfl,?_⟩<;>simp only[decide_eq_true_eq,decide_eq_false_iff_not] at h
    ·left;exact⟨rfl,by simp[ia2,Ha6,h,j1]⟩
    ·right;left;simp only[decide_eq_true_eq] at h';exact⟨rfl,by simp[ia2,Ha6,h,h',j1]⟩
    ·simp only[decide_eq_false_iff_not] at h';exact⟨fun _=>j1,by omega,by omega,by omega⟩
   | 2,_ =>
    have j1:=i1 (by omega);have j2:=i2 (by omega)
    show Nx (sl (decide (p.n.z < q.n.z)) _ (sl (decide (p.n.z > q.n.z)) _ _)) _ _
    refine Nx.sl (fun h=>.ex ?_) fun h=>Nx.sl (fun h'=>.ex ?_) fun h'=>.nx ⟨(),rfl,?_⟩<;>simp only[decide_eq_true_eq,decide_eq_false_iff_not] at h
    ·left;exact⟨rfl,by simp[ia2,Ha6,h,j1,j2]⟩
    ·right;left;simp only[decide_eq_true_eq] at h';exact⟨rfl,by simp[ia2,Ha6,h,h',j1,j2]⟩
    ·simp only[decide_eq_false_iff_not] at h';exact⟨fun _=>j1,fun _=>j2,by omega,by omega⟩
   | 3,_ =>
    have j1:=i1 (by omega);have j2:=i2 (by omega);have j3:=i3 (by omega)
    show Nx (sl (decide (p.b < q.b)) _ (sl (decide (p.b > q.b)) _ _)) _ _
    refine Nx.sl (fun h=>.ex ?_) fun h=>Nx.sl (fun h'=>.ex ?_) fun h'=>.nx ⟨(),rfl,?_⟩<;>simp only[decide_eq_true_eq,decide_eq_false_iff_not] at h
    ·left;exact⟨rfl,by simp[ia2,Ha6,h,j1,j2,j3]⟩
    ·right;left;simp only[decide_eq_true_eq] at h';exact⟨rfl,by simp[ia2,Ha6,h,h',j1,j2,j3]⟩
    ·simp only[decide_eq_false_iff_not] at h';exact⟨fun _=>j1,fun _=>j2,fun _=>j3,by omega⟩
  ·simp only[D5,N8]
   rw[bfD (by omega)]
   obtain⟨i1,i2,i3,i4⟩:=hI
   have j1:=i1 (by omega);have j2:=i2 (by omega);have j3:=i3 (by omega);have j4:=i4 (by omega)
   exact⟨_,rfl,.inr (.inr ⟨rfl,by simp[ia2,Ha6,j1,j2,j3,j4]⟩)⟩
 obtain⟨t,s,h1,h2⟩:=key
 unfold ka1
 simp only
 rw[h1]
 rcases h2 with⟨rfl,e⟩ | ⟨rfl,e⟩ | ⟨rfl,e⟩<;>rw[e]<;>rfl
theorem We4 (p q:Pln):ka2 p q=ia2 p q:=by unfold ka2;rw[He6];rfl
def atP (x:List Pln) (y:Pln):Nat:=x.findIdx fun p=>!decide (ia2 p y < 0)
noncomputable def ins (x:List Pln) (y:Pln):List Pln:=if (atP x y < x.length∧eqP (gL tP x (atP x y)) y=true) then x else Ab0 x y (atP x y)
def Xa9 (l:List Pln):Prop:=l.Pairwise LtP
theorem ld7 {x y z:Pln} (h1:LtP x y) (h2:LtP y z):LtP x z:=by unfold LtP at *;omega
theorem ud4 (x:Pln):¬ LtP x x:=by unfold LtP;omega
theorem ae1 (x y:Pln):LtP x y∨x=y∨LtP y x:=by
 by_cases h1:LtP x y
 ·exact .inl h1
 ·by_cases h2:LtP y x
  ·exact .inr (.inr h2)
  ·refine .inr (.inl ?_)
   unfold LtP at h1 h2
   have e1:x.n.x=y.n.x:=by omega
   have e2:x.n.y=y.n.y:=by omega
   have e3:x.n.z=y.n.z:=by omega
   have e4:x.b=y.b:=by omega
   cases x with | mk n b=>cases y with | mk m c=>cases n;cases m;simp_all
theorem ld8:∀ {l r:List Pln},Xa9 l→Xa9 r→(∀ p,p∈l↔p∈r)→l=r
 | [],[],_,_,_=>rfl
 | [],b::r,_,_,h=>by have:=(h b).2 List.mem_cons_self;cases this
 | a::l,[],_,_,h=>by have:=(h a).1 List.mem_cons_self;cases this
 | a::l,b::r,hl,hr,h=>by
  obtain⟨hl1,hl2⟩:=List.pairwise_cons.1 hl
  obtain⟨hr1,hr2⟩:=List.pairwise_cons.1 hr
  have hab:a=b:=by
   rcases List.mem_cons.1 ((h a).1 List.mem_cons_self) with e | h1
   ·exact e
   ·rcases List.mem_cons.1 ((h b).2 List.mem_cons_self) with e | h2
    ·exact e.symm
    ·exact absurd (ld7 (hr1 a h1) (hl1 b h2)) (ud4 b)
  subst hab
  rw[ld8 hl2 hr2 fun p=>?_]
  constructor
  ·intro hp
   rcases List.mem_cons.1 ((h p).1 (List.mem_cons_of_mem _ hp)) with e | h1
   ·subst e;exact absurd (hl1 p hp) (ud4 p)
   ·exact h1
  ·intro hp
   rcases List.mem_cons.1 ((h p).2 (List.mem_cons_of_mem _ hp)) with e | h1
   ·subst e;exact absurd (hr1 p hp) (ud4 p)
   ·exact h1
def ib7:List Pln→Pln→List Pln
 | [],y=>[y]
 | a::l,y=>if ia2 a y < 0 then a::ib7 l y else if eqP a y then a::l else y::a::l
theorem ue2 (y:Pln):∀ x,ins x y=ib7 x y
 | []=>rfl
 | a::l=>by
  have ih:=ue2 y l
  unfold ib7
  by_cases h:ia2 a y < 0
  ·rw[if_pos h,← ih]
   have e:atP (a::l) y=atP l y+1:=by unfold atP;rw[List.findIdx_cons];simp[h]
   unfold ins
   rw[e]
   have e2:gL tP (a::l) (atP l y+1)=gL tP l (atP l y):=rfl
   rw[e2]
   simp only[List.length_cons,Nat.add_lt_add_iff_right]
   split
   ·rfl
   ·rfl
  ·rw[if_neg h]
   have e:atP (a::l) y=0:=by unfold atP;rw[List.findIdx_cons];simp[h]
   unfold ins
   rw[e]
   have e2:gL tP (a::l) 0=a:=rfl
   rw[e2]
   simp only[List.length_cons,Nat.zero_lt_succ,true_and]
   split
   ·rfl
   ·rfl
theorem sb2 (y p:Pln):∀ x,p∈ib7 x y↔p=y∨p∈x
 | []=>by simp[ib7]
 | a::l=>by
  unfold ib7
  have ih:=sb2 y p l
  split
  ·simp only[List.mem_cons,ih]
   constructor
   ·rintro (h | h | h)
    ·exact .inr (.inl h)
    ·exact .inl h
    ·exact .inr (.inr h)
   ·rintro (h | h | h)
    ·exact .inr (.inl h)
    ·exact .inl h
    ·exact .inr (.inr h)
  ·split
   ·rename_i h
    rw[fc6] at h
    subst h
    simp only[List.mem_cons]
    constructor
    ·exact fun h=>.inr h
    ·rintro (h | h)
     ·exact .inl h
     ·exact h
   ·simp only[List.mem_cons]
theorem gc0 (y:Pln):∀ {x},Xa9 x→Xa9 (ib7 x y)
 | [],_=>List.pairwise_singleton _ _
 | a::l,h=>by
  obtain⟨h1,h2⟩:=List.pairwise_cons.1 h
  unfold ib7
  split
  ·rename_i hc
   rw[sd6] at hc
   refine List.pairwise_cons.2 ⟨fun p hp=>?_,gc0 y h2⟩
   rcases (sb2 y p l).1 hp with e | hp
   ·subst e;exact hc
   ·exact h1 p hp
  ·rename_i hc
   rw[sd6] at hc
   split
   ·exact h
   ·rename_i hne
    have hlt:LtP y a:=by
     rcases ae1 y a with h | h | h
     ·exact h
     ·exact absurd ((fc6 _ _).2 h.symm) hne
     ·exact absurd h hc
    refine List.pairwise_cons.2 ⟨fun p hp=>?_,h⟩
    rcases List.mem_cons.1 hp with e | hp
    ·subst e;exact hlt
    ·exact ld7 hlt (h1 p hp)
end Go.Ev.Ce
namespace Go.Ev.Ce
open Go Go.Ev Go.Ev.L Go.Proofs
theorem ud5 {σ:Type} {step:σ→Stp σ} {s:σ} {t:Nat} (h:step s=.exit t):lp step s=(t,s):=by rw[ne6];exact Lc6 h
theorem ie0:Qb8 []=[]:=List.eq_nil_of_length_eq_zero (Mb4 [])
end Go.Ev.Ce
namespace Go.Ev.Ce
def rmZ (p:Pln) (x:Pt):Int:=p.b*x.pw - (p.n.x*x.px+p.n.y*x.py+p.n.z*x.pz)
structure Inr (r:List Pln) (x:Pt):Prop where
 w:0 < x.pw
 h:∀ p∈r,0≤rmZ p x
def oa1 (p:Pln):Pln:=⟨⟨-p.n.x,-p.n.y,-p.n.z⟩,-p.b⟩
structure Cn (r:List Pln) (x:Pt):Prop extends Inr r x where
 c:∃ p q s,p∈r∧q∈r∧s∈r∧mw p q s≠0∧rmZ p x=0∧rmZ q x=0∧rmZ s x=0
def Bdd (r:List Pln):Prop:=∀ d:V3,d≠⟨0,0,0⟩→∃ p∈r,0 < dot p.n d
def go (x:Pt) (q:Pln) (d:V3):Pt:=⟨x.px*dot q.n d+rmZ q x*d.x,x.py*dot q.n d+rmZ q x*d.y,x.pz*dot q.n d+rmZ q x*d.z,x.pw*dot q.n d⟩
theorem ae2 (p q:Pln) (x:Pt) (d:V3):rmZ p (go x q d)=dot q.n d*rmZ p x - rmZ q x*dot p.n d:=by simp only[rmZ,go,dot];grind
theorem Sa4 {a b c:Int} (hc:0 < c) (h:a*c≤b*c):a≤b:=Int.le_of_mul_le_mul_right h hc
theorem first (x:Pt) (d:V3):∀ r:List Pln,(∀ p∈r,0≤rmZ p x)→(∃ p∈r,0 < dot p.n d)→∃ q∈r,0 < dot q.n d∧∀ p∈r,0 < dot p.n d→rmZ q x*dot p.n d≤rmZ p x*dot q.n d
 | [],_,h=>by obtain⟨p,hp,_⟩:=h;cases hp
 | a::r,hx,h=>by
  by_cases hr:∃ p∈r,0 < dot p.n d
  ·obtain⟨q,hq,h1,h2⟩:=first x d r (fun p hp=>hx p (List.mem_cons_of_mem _ hp)) hr
   by_cases ha:0 < dot a.n d
   ·by_cases hc:rmZ q x*dot a.n d≤rmZ a x*dot q.n d
    ·refine⟨q,List.mem_cons_of_mem _ hq,h1,fun p hp h3=>?_⟩
     rcases List.mem_cons.1 hp with rfl | hp
     ·exact hc
     ·exact h2 p hp h3
    ·refine⟨a,List.mem_cons_self,ha,fun p hp h3=>?_⟩
     rcases List.mem_cons.1 hp with rfl | hp
     ·exact Int.le_refl _
     ·have h4:=h2 p hp h3
      have h5:rmZ a x*dot q.n d < rmZ q x*dot a.n d:=by omega
      have h6:=Int.mul_le_mul_of_nonneg_right h4 (Int.le_of_lt ha)
      have h7:=Int.mul_lt_mul_of_pos_right h5 h3
      have e1:rmZ q x*dot p.n d*dot a.n d=rmZ q x*dot a.n d*dot p.n d:=by grind
      have e2:rmZ a x*dot q.n d*dot p.n d=rmZ a x*dot p.n d*dot q.n d:=by grind
      have e3:rmZ p x*dot q.n d*dot a.n d=rmZ p x*dot a.n d*dot q.n d:=by grind
      refine Sa4 h1 ?_
      omega
   ·refine⟨q,List.mem_cons_of_mem _ hq,h1,fun p hp h3=>?_⟩
    rcases List.mem_cons.1 hp with rfl | hp
    ·exact absurd h3 ha
    ·exact h2 p hp h3
  ·have ha : 0 < dot a.n d := by
    obtain⟨p,hp,h3⟩:=h
    rcases List.mem_cons.1 hp with rfl | hp
    ·exact h3
    ·exact absurd ⟨p,hp,h3⟩ hr
   refine⟨a,List.mem_cons_self,ha,fun p hp h3=>?_⟩
   rcases List.mem_cons.1 hp with rfl | hp
   ·exact Int.le_refl _
   ·exact absurd ⟨p,hp,h3⟩ hr
theorem step {r:List Pln} {x:Pt} (hx:Inr r x) (d:V3) (h:∃ p∈r,0 < dot p.n d):∃ q∈r,0 < dot q.n d∧Inr r (go x q d):=by
 obtain⟨q,hq,h1,h2⟩:=first x d r hx.h h
 refine⟨q,hq,h1,⟨Int.mul_pos hx.w h1,fun p hp=>?_⟩⟩
 rw[ae2]
 have h3:=hx.h p hp
 have h4:=hx.h q hq
 by_cases h5:0 < dot p.n d
 ·have:=h2 p hp h5
  have e:rmZ p x*dot q.n d=dot q.n d*rmZ p x:=Int.mul_comm _ _
  omega
 ·have h6:=Int.mul_nonneg (Int.le_of_lt h1) h3
  have h7:rmZ q x*dot p.n d≤0:=Int.mul_nonpos_of_nonneg_of_nonpos h4 (by omega)
  omega
theorem ue3 {h q:Pln} {x:Pt} {d:V3} (h1:0≤rmZ q x) (h2:0≤dot h.n d):rmZ h (go x q d)*x.pw≤rmZ h x*(go x q d).pw∨x.pw≤0:=by
 rcases Int.lt_or_le 0 x.pw with hw | hw
 ·left
  rw[ae2]
  have:=Int.mul_nonneg h1 h2
  have h3:=Int.mul_nonneg this (Int.le_of_lt hw)
  have e:rmZ h x*(go x q d).pw=dot q.n d*rmZ h x*x.pw:=by unfold go;grind
  have e2:(dot q.n d*rmZ h x - rmZ q x*dot h.n d)*x.pw=dot q.n d*rmZ h x*x.pw - rmZ q x*dot h.n d*x.pw:=by grind
  omega
 ·exact .inr hw
def neg (d:V3):V3:=⟨-d.x,-d.y,-d.z⟩
theorem ae3 (a d:V3):dot a (neg d)=-dot a d:=by unfold dot neg;grind
theorem ud6 {d:V3} (h:d≠⟨0,0,0⟩):neg d≠⟨0,0,0⟩:=fun h'=>h (by
 cases d;unfold neg at h';simp only[V3.mk.injEq] at h' ⊢;omega)
theorem turn (h:Pln) {d:V3} (hd:d≠⟨0,0,0⟩):∃ e,e≠(⟨0,0,0⟩:V3)∧0≤dot h.n e∧∀ a,dot a d=0→dot a e=0:=by
 by_cases h1:0≤dot h.n d
 ·exact⟨d,hd,h1,fun _ h=>h⟩
 ·exact⟨neg d,ud6 hd,by rw[ae3];omega,fun a h=>by rw[ae3,h];rfl⟩
theorem rf9 {n:V3} (hn:n≠⟨0,0,0⟩):∃ d,d≠(⟨0,0,0⟩:V3)∧dot n d=0:=by
 by_cases h:n.x=0∧n.y=0
 ·exact⟨⟨1,0,0⟩,by simp,by unfold dot;simp[h.1]⟩
 ·refine⟨⟨n.y,-n.x,0⟩,fun h'=>h ?_,by unfold dot;grind⟩
  simp only[V3.mk.injEq] at h'
  omega
theorem V3.ext' {a b:V3} (h1:a.x=b.x) (h2:a.y=b.y) (h3:a.z=b.z):a=b:=by cases a;cases b;simp_all
theorem ue4 {m n d:V3} (hm:m≠⟨0,0,0⟩) (h1:dot m d=0) (h2:dot n d≠0):f0 m n≠⟨0,0,0⟩:=fun h=>by
 unfold f0 at h
 simp only[V3.mk.injEq] at h
 obtain⟨c1,c2,c3⟩:=h
 unfold dot at h1 h2
 have e1:m.x*(n.x*d.x+n.y*d.y+n.z*d.z)=0:=by grind
 have e2:m.y*(n.x*d.x+n.y*d.y+n.z*d.z)=0:=by grind
 have e3:m.z*(n.x*d.x+n.y*d.y+n.z*d.z)=0:=by grind
 have k:∀ {a:Int},a*(n.x*d.x+n.y*d.y+n.z*d.z)=0→a=0:=fun h=>(Int.mul_eq_zero.1 h).resolve_right h2
 exact hm (V3.ext' (k e1) (k e2) (k e3))
theorem Hd7 (a b:V3):dot a (f0 a b)=0:=by unfold dot f0;grind
theorem Hd8 (a b:V3):dot b (f0 a b)=0:=by unfold dot f0;grind
theorem ue5 {p q:Pln} {x:Pt} {d:V3} (h:rmZ p x=0) (h':dot p.n d=0):rmZ p (go x q d)=0:=by rw[ae2,h,h'];simp
theorem ue6 (q:Pln) (x:Pt) (d:V3):rmZ q (go x q d)=0:=by rw[ae2];grind
theorem gf6 {q:Pln} {d:V3} (h:0 < dot q.n d):q.n≠⟨0,0,0⟩:=fun h'=>by rw[h'] at h;unfold dot at h;simp at h
theorem Pe9 {a b c u v w:Int} (hu:0 < u) (hv:0 < v) (hw:0 < w) (h1:a*v≤b*u) (h2:b*w≤c*v):a*w≤c*u:=by
 have h3:=Int.mul_le_mul_of_nonneg_right h1 (Int.le_of_lt hw)
 have h4:=Int.mul_le_mul_of_nonneg_right h2 (Int.le_of_lt hu)
 have e1:a*v*w=a*w*v:=by grind
 have e2:b*u*w=b*w*u:=by grind
 have e3:c*v*u=c*u*v:=by grind
 exact Sa4 hv (by omega)
theorem We5 {r:List Pln} (hb:Bdd r) (h:Pln) {x:Pt} (hx:Inr r x):∃ v,Cn r v∧rmZ h v*x.pw≤rmZ h x*v.pw:=by
 obtain⟨d0,n0,p0,_⟩:=turn h (d:=⟨1,0,0⟩) (by simp)
 obtain⟨q1,m1,k1,i1⟩:=step hx d0 (hb d0 n0)
 have l1:=(ue3 (h:=h) (x:=x) (hx.h q1 m1) p0).resolve_right (by have:=hx.w;omega)
 obtain⟨e1,ne1,he1⟩:=rf9 (gf6 k1)
 obtain⟨d1,n1,p1,z1⟩:=turn h ne1
 obtain⟨q2,m2,k2,i2⟩:=step i1 d1 (hb d1 n1)
 have l2:=(ue3 (h:=h) (x:=go x q1 d0) (i1.h q2 m2) p1).resolve_right (by have:=i1.w;omega)
 have hc:=ue4 (gf6 k1) (z1 _ he1) (n:=q2.n) (by omega)
 obtain⟨d2,n2,p2,z2⟩:=turn h hc
 obtain⟨q3,m3,k3,i3⟩:=step i2 d2 (hb d2 n2)
 have l3:=(ue3 (h:=h) (x:=go (go x q1 d0) q2 d1) (i2.h q3 m3) p2).resolve_right (by have:=i2.w;omega)
 have a1:rmZ q1 (go (go x q1 d0) q2 d1)=0:=ue5 (ue6 _ _ _) (z1 _ he1)
 refine⟨_,⟨i3,q3,q1,q2,m3,m1,m2,fun h0=>?_,ue6 _ _ _,ue5 a1 (z2 _ (Hd7 _ _)),ue5 (ue6 _ _ _) (z2 _ (Hd8 _ _))⟩,?_⟩
 ·have:dot q3.n d2=0:=z2 _ h0
  omega
 ·exact Pe9 i3.w i2.w hx.w l3 (Pe9 i2.w i1.w hx.w l2 l1)
theorem Cc6 {r:List Pln} (hb:Bdd r) {h:Pln} (hv:∀ v,Cn r v→0≤rmZ h v) {x:Pt} (hx:Inr r x):0≤rmZ h x:=by
 obtain⟨v,h1,h2⟩:=We5 hb h hx
 have h3:=Int.mul_nonneg (hv v h1) (Int.le_of_lt hx.w)
 exact Sa4 h1.w (by rw[Int.zero_mul];omega)
def sf0 (r:List Pln):Prop:=∃ x:Pt,0 < x.pw∧∀ p∈r,0 < rmZ p x
structure Eqv (x v:Pt):Prop where
 e1:x.px*v.pw=v.px*x.pw
 e2:x.py*v.pw=v.py*x.pw
 e3:x.pz*v.pw=v.pz*x.pw
theorem Eqv.rm {x v:Pt} (h:Eqv x v) (p:Pln):rmZ p x*v.pw=rmZ p v*x.pw:=by
 obtain⟨e1,e2,e3⟩:=h
 unfold rmZ
 grind
theorem Eqv.inr {r:List Pln} {x v:Pt} (h:Eqv x v) (hw:0 < x.pw) (hv:Inr r v):Inr r x:=⟨hw,fun p hp=>by
 have:=h.rm p
 have h2:=Int.mul_nonneg (hv.h p hp) (Int.le_of_lt hw)
 exact Sa4 hv.w (by rw[Int.zero_mul];omega)⟩
end Go.Ev.Ce
namespace Go.Ev.Ce
open Go Go.Ev Go.Ev.L Go.Proofs
structure Hit (r:List Pln) (Q:Pt→Prop) (p q s:Pln):Prop where
 h1:(mpt p q s).2=true
 h2:inn r (mpt p q s).1=true
 h3:Q (mpt p q s).1
end Go.Ev.Ce
namespace Go.Ev.Ce
open Go Go.Ev Go.Ev.L Go.Proofs
theorem He7 (x:List Pln) (y:Pln):ib7 x y≠[]:=by
 intro h
 have:=(sb2 y y x).2 (.inl rfl)
 rw[h] at this
 cases this
theorem sb3 (y:Pln):∀ x:List Pln,(ib7 x y).length≤x.length+1
 | []=>Nat.le_refl _
 | a::l=>by
  have:=sb3 y l
  unfold ib7
  split
  ·simp only[List.length_cons];omega
  ·split<;>simp only[List.length_cons]<;>omega
def phP (out:List Pln):Nat:=match out with
 | []=>0
 | _::_=>1
end Go.Ev.Ce
namespace Go.Ev.Ce
open Go Go.Ev Go.Ev.L Go.Proofs
def U9 (p:Pln) (v:V3):Int:=if okp p&&inV v then (if dot p.n v - p.b < 0 then -1 else if dot p.n v - p.b > 0 then 1 else 0) else 0
theorem ue7 {p:Pln} {v:V3} (hp:Bd p) (hv:inV v=true):Sm 331776 (dot p.n v):=by
 obtain⟨⟨a1,a2⟩,⟨a3,a4⟩,a5,a6⟩:=(xb2 v).1 hv
 have r1:=mb hp.x1 hp.x2 a1 a2;have r2:=mb hp.y1 hp.y2 a3 a4;have r3:=mb hp.z1 hp.z2 a5 a6
 unfold Sm dot
 omega
theorem He8 (p:Pln) (v:V3):Fa9 p v=some (i (U9 p v),[]):=by
 unfold Fa9 U9
 simp only[se8,Hd2,Zd8,Hd3]
 cases hp:okp p with
 | false=>rfl
 | true =>
  cases hv:inV v with
  | false=>rfl
  | true =>
   have hb:=Ib0 hp
   have hd:=ue7 hb hv
   have e:da2 p.n v=dot p.n v:=by
    unfold da2
    simp only[Gb5,nc0]
    exact Hb7 (hd.mono (by omega))
   have e2:W (dot p.n v - p.b)=dot p.n v - p.b:=ka8 (by have:=hd.1;have:=hb.b2;omega) (by have:=hd.2;have:=hb.b1;omega)
   rw[e,e2]
   by_cases h1:dot p.n v - p.b < 0
   ·simp only[Bool.and_self,if_true,h1,decide_true];rfl
   ·by_cases h2:dot p.n v - p.b > 0
    ·simp only[Bool.and_self,if_true,h1,h2,decide_true,decide_false,if_false];rfl
    ·simp only[Bool.and_self,if_true,h1,h2,decide_false,if_false];rfl
theorem ud7 (p:Pln) (v:V3):va1 p v=U9 p v:=by unfold va1;rw[He8];rfl
theorem Hd9 {p:Pln} {v:V3} (hp:okp p=true) (hv:inV v=true):U9 p v > 0↔dot p.n v > p.b:=by
 unfold U9
 rw[hp,hv]
 simp only[Bool.and_self,if_true]
 split
 ·omega
 ·split<;>omega
theorem Mb9 {p:Pln} {v:V3} (hp:okp p=true) (hv:inV v=true):U9 p v=0↔dot p.n v=p.b:=by
 unfold U9
 rw[hp,hv]
 simp only[Bool.and_self,if_true]
 split
 ·omega
 ·split<;>omega
theorem We6 (v:V3):g3 v∣v.x∧g3 v∣v.y∧g3 v∣v.z:=by
 unfold g3
 refine⟨?_,?_,?_⟩<;>rw[← Int.dvd_natAbs]<;>apply Int.natCast_dvd_natCast.2
 ·exact Nat.dvd_trans (Nat.gcd_dvd_left _ _) (Nat.gcd_dvd_left _ _)
 ·exact Nat.dvd_trans (Nat.gcd_dvd_left _ _) (Nat.gcd_dvd_right _ _)
 ·exact Nat.gcd_dvd_right _ _
theorem We7 (v:V3) (h:g3 v≠0):g3 ⟨Int.tdiv v.x (g3 v),Int.tdiv v.y (g3 v),Int.tdiv v.z (g3 v)⟩=1:=by
 generalize hg:g3 v=g at *
 have h0:0≤g:=hg ▸ Mb7 v
 obtain⟨n,rfl⟩:∃ n:Nat,g=n:=⟨g.toNat,by omega⟩
 have hn:0 < n:=by omega
 have hgn:Nat.gcd (Nat.gcd v.x.natAbs v.y.natAbs) v.z.natAbs=n:=by unfold g3 at hg;omega
 have d1:n∣Nat.gcd v.x.natAbs v.y.natAbs:=hgn ▸ Nat.gcd_dvd_left _ _
 have d3:n∣v.z.natAbs:=hgn ▸ Nat.gcd_dvd_right _ _
 have d4:n∣v.x.natAbs:=Nat.dvd_trans d1 (Nat.gcd_dvd_left _ _)
 have d5:n∣v.y.natAbs:=Nat.dvd_trans d1 (Nat.gcd_dvd_right _ _)
 unfold g3
 simp only[Int.natAbs_tdiv,Int.natAbs_natCast]
 show ((Nat.gcd (Nat.gcd (v.x.natAbs / n) (v.y.natAbs / n)) (v.z.natAbs / n):Nat):Int)=1
 rw[Nat.gcd_div d4 d5,Nat.gcd_div d1 d3,hgn,Nat.div_self hn]
 rfl
structure Thr (a b c:V3) (p:Pln):Prop where
 ok:okp p=true
 k:∃ g:Int,0 < g∧g*p.n.x=(f0 (sub b a) (sub c a)).x∧g*p.n.y=(f0 (sub b a) (sub c a)).y∧g*p.n.z=(f0 (sub b a) (sub c a)).z
 o:p.b=dot p.n a
theorem Ea8 {a b c:V3} (h:(D7 a b c).2=true):(inV a=true∧inV b=true∧inV c=true)∧Thr a b c (D7 a b c).1:=by
 unfold D7 at h ⊢
 cases ha:inV a with
 | false=>rw[ha] at h;cases h
 | true =>
  cases hb:inV b with
  | false=>rw[ha,hb] at h;cases h
  | true =>
   cases hc:inV c with
   | false=>rw[ha,hb,hc] at h;cases h
   | true =>
    rw[ha,hb,hc] at h
    simp only[Bool.and_self,if_true] at h ⊢
    obtain⟨_,k1,k2,k3⟩:=ob8 ha hb hc
    generalize hn:f0 (sub b a) (sub c a)=n at *
    by_cases h0:g3 n=0
    ·rw[if_pos h0] at h;cases h
    ·rw[if_neg h0]
     have hp:=Mb7 n
     obtain⟨d1,d2,d3⟩:=We6 n
     have q1:=ab3 (g:=g3 n) k1 (by omega)
     have q2:=ab3 (g:=g3 n) k2 (by omega)
     have q3:=ab3 (g:=g3 n) k3 (by omega)
     refine⟨⟨trivial,trivial,trivial⟩,⟨?_,⟨g3 n,by omega,by rw[hn];exact Int.mul_tdiv_cancel' d1,by rw[hn];exact Int.mul_tdiv_cancel' d2,by rw[hn];exact Int.mul_tdiv_cancel' d3⟩,rfl⟩⟩
     obtain⟨⟨a1,a2⟩,⟨a3,a4⟩,a5,a6⟩:=(xb2 a).1 ha
     have r1:=mb q1.1 q1.2 a1 a2;have r2:=mb q2.1 q2.2 a3 a4;have r3:=mb q3.1 q3.2 a5 a6
     unfold okp
     rw[We7 n h0]
     simp only[List.all_cons,List.all_nil,Bool.and_true,Bool.and_eq_true,lb2,beq_self_eq_true,true_and,and_true]
     refine⟨⟨q1,q2,q3⟩,?_⟩
     unfold Sm dot
     simp only
     omega
theorem ae4 (a b c:V3):Bd (D7 a b c).1:=by
 cases h:(D7 a b c).2 with
 | true=>exact Ib0 (Ea8 h).2.ok
 | false =>
  have:(D7 a b c).1=⟨⟨0,0,0⟩,0⟩:=by
   unfold D7 at h ⊢
   split
   ·rename_i hc
    rw[if_pos hc] at h
    split
    ·rfl
    ·rename_i h0;rw[if_neg h0] at h;cases h
   ·rfl
  rw[this]
  constructor<;>simp
theorem ue8 {p:Pln} (h:Bd p):Oa9 p=oa1 p:=by
 unfold Oa9 ya1 oa1
 simp only
 have:=h.x1;have:=h.x2;have:=h.y1;have:=h.y2;have:=h.z1;have:=h.z2;have:=h.b1;have:=h.b2
 rw[ka8 (by omega) (by omega),ka8 (by omega) (by omega),ka8 (by omega) (by omega),ka8 (by omega) (by omega)]
 simp only[Int.zero_sub]
theorem gc1 {p:Pln} (h:okp p=true):okp (oa1 p)=true:=by
 unfold okp oa1 g3 at *
 simp only[List.all_cons,List.all_nil,Bool.and_true,Bool.and_eq_true,lb2,Int.natAbs_neg] at h ⊢
 obtain⟨⟨h1,h2,h3⟩,h4,h5⟩:=h
 exact⟨⟨h1.neg,h2.neg,h3.neg⟩,h4,h5.neg⟩
noncomputable def ie1 (l:List V3) (p:Pln):Bool:=l.any fun v=>U9 p v != 0
noncomputable def nf (l:List V3) (a c k:Nat):Bool:=(D7 (gL tV l a) (gL tV l c) (gL tV l k)).2&&ie1 l (D7 (gL tV l a) (gL tV l c) (gL tV l k)).1
noncomputable def nf2 (l:List V3) (a c:Nat):Bool:=(List.range c).any (nf l a c)
noncomputable def nf1 (l:List V3) (a:Nat):Bool:=(List.range a).any (nf2 l a)
noncomputable def nf0 (l:List V3):Bool:=(List.range l.length).any (nf1 l)
theorem Ib3 {σ : Type} {step : σ → Stp σ} {mk : Nat → σ} (n : Nat) (c : Nat → Bool) (u fin : Nat) (hn : n ≤ 1000000000) (h : ∀ j, j < n → step (mk j) = sl (c j) (.exit u) (.next (mk (j + 1)))) (hf : step (mk n) = .exit fin) :
  ∃ j,lp step (mk 0)=(if (List.range n).any c then u else fin,mk j):=by
 have key:=F5 (step:=step) (mk:=fun j (_:Unit)=>mk j) n (fun j _=>j≤n∧∀ i,i < j→c i=false) (fun t s=>t=(if (List.range n).any c then u else fin)∧∃ j,s=mk j) hn
  (fun j _ hj hi=>by
   rw[h j hj]
   refine Nx.sl (fun hc=>.ex ⟨?_,j,rfl⟩) (fun hc=>.nx ⟨(),rfl,by omega,fun i hi'=>?_⟩)
   ·rw[if_pos (List.any_eq_true.2 ⟨j,List.mem_range.2 hj,hc⟩)]
   ·by_cases e:i=j
    ·rw[e];exact hc
    ·exact hi.2 i (by omega))
  (fun j _ hj hi=>by
   have e:j=n:=by omega
   subst e
   refine⟨fin,hf,?_,j,rfl⟩
   rw[if_neg fun hh=>?_]
   obtain⟨i,hi1,hi2⟩:=List.any_eq_true.1 hh
   rw[hi.2 i (List.mem_range.1 hi1)] at hi2
   cases hi2) 0 () ⟨by omega,by omega⟩
 obtain⟨t,s,h1,rfl,j,rfl⟩:=key
 exact⟨j,h1⟩
theorem ue9 (l:List V3) (x1 x2 x3:Int) (okb:Bool) (p:Pln) (hl:l.length≤1000000000):∃ t s,lp (A1 ⟨l,x1,x2,x3,okb,p.n.x,p.n.y,p.n.z,p.b⟩) ⟨0⟩=(t,s)∧(((okb&&ie1 l p)=true∧t=1)∨((okb&&ie1 l p)=false∧(t=2∨t=3))):=by
 cases okb with
 | false =>
  cases l with
  | nil =>
   refine⟨3,⟨0⟩,?_,.inr ⟨rfl,.inr rfl⟩⟩
   exact ud5 (step:=A1 ⟨[],x1,x2,x3,false,p.n.x,p.n.y,p.n.z,p.b⟩) rfl
  | cons v l =>
   refine⟨2,⟨0⟩,?_,.inr ⟨rfl,.inl rfl⟩⟩
   refine ud5 (step:=A1 ⟨v::l,x1,x2,x3,false,p.n.x,p.n.y,p.n.z,p.b⟩) ?_
   simp only[A1,V7]
   rw[btD (by simp only[List.length_cons];omega)]
   rfl
 | true =>
  have h:=Wa1 (step:=A1 ⟨l,x1,x2,x3,true,p.n.x,p.n.y,p.n.z,p.b⟩) (mk:=fun j=>(⟨(j:Int)⟩:ba5)) (c:=fun v=>U9 p v != 0) (u:=1) (fin:=3) tV l hl
   (fun j hj=>by
    simp only[A1,V7,qc0,ud7,Int.toNat_natCast,o6 hj (show l.length≤4611686018427387904 by omega)]
    rw[btD (i8 hj),bt (f7 hj)]
    rfl)
   (by simp only[A1,V7];rw[bfD (i7 (Nat.lt_irrefl _))]) 0 (Nat.zero_le _)
  rw[List.drop_zero] at h
  have h:(lp (A1 ⟨l,x1,x2,x3,true,p.n.x,p.n.y,p.n.z,p.b⟩) ⟨0⟩).1=_:=h
  cases hlp:lp (A1 ⟨l,x1,x2,x3,true,p.n.x,p.n.y,p.n.z,p.b⟩) ⟨0⟩ with
  | mk t s =>
  rw[hlp] at h
  refine⟨t,s,rfl,?_⟩
  simp only at h
  rw[h]
  unfold ie1
  cases hh:l.any fun v=>U9 p v != 0 with
  | true=>exact .inl ⟨rfl,rfl⟩
  | false=>exact .inr ⟨rfl,.inr rfl⟩
theorem ve0 (l:List V3) (hl:l.length≤1000000000) (a c:Nat) (ha:a < l.length) (hc:c < a):∃ j,lp (N2 ⟨(a:Int),(c:Int)⟩) ⟨l,0⟩=(if nf2 l a c then 1 else 2,⟨l,((j:Nat):Int)⟩) :=
 Ib3 (step:=N2 ⟨(a:Int),(c:Int)⟩) (mk:=fun j=>(⟨l,(j:Int)⟩:ba6)) c (nf l a c) 1 2 (by omega)
  (fun j hj=>by
   simp only[N2,ea5,pc9,Mb8,Int.toNat_natCast,j8,j7,o6 hj (show c≤4611686018427387904 by omega)]
   rw[btD (i8 hj),bt (f7 ha),bt (f7 (show c < l.length by omega)),bt (f7 (show j < l.length by omega)),q8]
   obtain⟨t,s,h1,h2⟩:=ue9 l (a:Int) (c:Int) (j:Int) (D7 (gL tV l a) (gL tV l c) (gL tV l j)).2 (D7 (gL tV l a) (gL tV l c) (gL tV l j)).1 hl
   rw[h1]
   unfold nf
   rcases h2 with⟨e,rfl⟩ | ⟨e,rfl | rfl⟩<;>rw[e]<;>rfl)
  (by simp only[N2,ea5];rw[bfD (i7 (Nat.lt_irrefl _))])
theorem ve1 (l:List V3) (hl:l.length≤1000000000) (a:Nat) (ha:a < l.length):∃ j,lp (N4 ⟨(a:Int)⟩) ⟨l,0⟩=(if nf1 l a then 1 else 2,⟨l,((j:Nat):Int)⟩) :=
 Ib3 (step:=N4 ⟨(a:Int)⟩) (mk:=fun j=>(⟨l,(j:Int)⟩:ba7)) a (nf2 l a) 1 2 (by omega)
  (fun j hj=>by
   obtain⟨j',h1⟩:=ve0 l hl a j ha hj
   simp only[N4,ea6,j8,j7,o6 hj (show a≤4611686018427387904 by omega)]
   rw[btD (i8 hj),h1]
   cases nf2 l a j<;>rfl)
  (by simp only[N4,ea6];rw[bfD (i7 (Nat.lt_irrefl _))])
theorem He9 (l:List V3) (hl:l.length≤1000000000):Ga0 l=some (b (!nf0 l),[]):=by
 obtain⟨j,h⟩:=Ib3 (step:=N5 ⟨⟩) (mk:=fun j=>(⟨l,(j:Int)⟩:ba8)) l.length (nf1 l) 1 2 hl
  (fun j hj=>by
   obtain⟨j',h1⟩:=ve1 l hl j hj
   simp only[N5,ea7,j8,j7,o6 hj (show l.length≤4611686018427387904 by omega)]
   rw[btD (i8 hj),h1]
   cases nf1 l j<;>rfl)
  (by simp only[N5,ea7];rw[bfD (i7 (Nat.lt_irrefl _))])
 have h:lp (N5 ⟨⟩) ⟨l,0⟩=(if nf0 l then 1 else 2,⟨l,((j:Nat):Int)⟩):=h
 unfold Ga0
 simp only[j8,j7]
 rw[h]
 cases nf0 l<;>rfl
theorem We8 (l:List V3) (hl:l.length≤1000000000):Ga1 l=!nf0 l:=by unfold Ga1;rw[He9 l hl];rfl
noncomputable def Pb2 (l:List V3):Int:=if (l.length:Int) > 48 then 2 else if l.all inV then (if nf0 l then 0 else 11) else 3
theorem Sd9 (l:List V3) (hl:l.length≤1000000000):va2 l=some (i (Pb2 l),[]):=by
 have h:=Wa1 (step:=V8 ⟨l⟩) (mk:=fun j=>(⟨(j:Int)⟩:L2)) (c:=fun v=>!inV v) (u:=1) (fin:=2) tV l hl
  (fun j hj=>by
   simp only[V8,Z7,Int.toNat_natCast,Zd8,Hd3,o6 hj (show l.length≤4611686018427387904 by omega)]
   rw[btD (i8 hj),bt (f7 hj),q8])
  (by simp only[V8,Z7];rw[bfD (i7 (Nat.lt_irrefl _))]) 0 (Nat.zero_le _)
 rw[List.drop_zero] at h
 have e:(l.any fun v=>!inV v)=!l.all inV:=by rw[List.not_all_eq_any_not]
 unfold va2 Pb2
 simp only[j8,j7,N6,Sd5 l hl,We8 l hl]
 rw[show (⟨0⟩:L2)=⟨((0:Nat):Int)⟩ from rfl,h,e]
 by_cases h48:(l.length:Int) > 48
 ·rw[if_pos h48,btD h48]
 ·rw[if_neg h48,bfD h48]
  cases l.all inV with
  | false=>rfl
  | true=>cases nf0 l<;>rfl
theorem ld9 (l:List V3) (hl:l.length≤1000000000):kb3 l=Pb2 l:=by unfold kb3;rw[Sd9 l hl];rfl
def hold (p:Pln) (l:List V3):Bool:=!l.any fun v=>decide (U9 p v > 0)
theorem ve2 (p:Pln) (l:List V3) (hl:l.length≤1000000000):va3 p l=some (b (hold p l),[]):=by
 have h:=Wa1 (step:=V9 ⟨l,p.n.x,p.n.y,p.n.z,p.b⟩) (mk:=fun j=>(⟨(j:Int)⟩:L3)) (c:=fun v=>decide (U9 p v > 0)) (u:=1) (fin:=2) tV l hl
  (fun j hj=>by
   simp only[V9,Z8,Int.toNat_natCast,ud7,qc0,o6 hj (show l.length≤4611686018427387904 by omega)]
   rw[btD (i8 hj),bt (f7 hj),q8])
  (by simp only[V9,Z8];rw[bfD (i7 (Nat.lt_irrefl _))]) 0 (Nat.zero_le _)
 rw[List.drop_zero] at h
 unfold va3 hold
 simp only[j8,j7]
 rw[show (⟨0⟩:L3)=⟨((0:Nat):Int)⟩ from rfl,h]
 cases l.any fun v=>decide (U9 p v > 0)<;>rfl
theorem Ie0 (p:Pln) (l:List V3) (hl:l.length≤1000000000):oa2 p l=hold p l:=by unfold oa2;rw[ve2 p l hl];rfl
end Go.Ev.Ce
namespace Go.Ev.Ce
open Go Go.Ev Go.Ev.L Go.Proofs
theorem Td0 (x:List Pln) (y:Pln) (hx:x.length≤1000000):Rd (one (r1L tP)) (Pa2 x y) (fun r=>r=ins x y):=by
  have h:=Ka6 (step:=U5 ⟨x,y.n.x,y.n.y,y.n.z,y.b⟩) (mk:=fun j=>(⟨(j:Int)⟩:W0)) (c:=fun p=>!decide (ia2 p y < 0)) (u:=1) (fin:=2) tP x (by omega)
    (fun j hj=>by
      simp only[U5,ka3,Int.toNat_natCast,te7,We4,o6 hj (show x.length≤4611686018427387904 by omega)]
      rw[btD (i8 hj),bt (f7 hj),q8]
      show sl (decide (ia2 (gL tP x j) y < 0)) _ _=_
      cases decide (ia2 (gL tP x j) y < 0)<;>rfl)
    (by simp only[U5,ka3];rw[bfD (i7 (Nat.lt_irrefl _))]) 0 (Nat.zero_le _)
  rw[List.drop_zero] at h
  have key:∃ t,lp (U5 ⟨x,y.n.x,y.n.y,y.n.z,y.b⟩) ⟨0⟩=(t,⟨((atP x y:Nat):Int)⟩)∧(t=1∨t=2):=by
    rw[show (⟨0⟩:W0)=⟨((0:Nat):Int)⟩ from rfl,h]
    split
    · exact⟨1,by rw[Nat.zero_add];rfl,.inl rfl⟩
    · rename_i hn
      refine⟨2,?_,.inr rfl⟩
      have:atP x y=x.length:=by
        unfold atP
        rw[List.findIdx_eq_length]
        intro p hp
        cases hb:(!decide (ia2 p y < 0)) with
        | false=>rfl
        | true=>exact absurd (List.any_eq_true.2 ⟨p,hp,hb⟩) hn
      rw[this]
  obtain⟨t,h1,h2⟩:=key
  have h3:atP x y≤x.length:=List.findIdx_le_length
  have hdef:ins x y=if (atP x y < x.length∧eqP (gL tP x (atP x y)) y=true) then x else Ab0 x y (atP x y):=rfl
  generalize atP x y=n at *
  have hlo:inB (n:Int) (x.length+1)=true:=f7 (by omega)
  have hd:(bL tP (x.take n)).length=n:=by rw[← l0,ga2,List.length_take];omega
  have hlen:(Ab0 x y n).length=x.length+1:=by unfold Ab0;simp only[List.length_append,List.length_cons,List.length_take,List.length_drop];omega
  have lt:len (bL tP (x.take n))=n:=by rw[l0];exact hd
  have ld:len (bL tP (x.drop n))=x.length - n:=by rw[ga2,List.length_drop]
  have b1:(Nat.beq 1 1&&Nat.ble ((1+(x.length - n))*32) room)=true:=by rw[ab1 (by omega)];rfl
  have b2:(Nat.beq 0 0&&Nat.ble ((0+n)*32) room)=true:=by rw[ab1 (by omega)];rfl
  have e0:app [] (bL tP (x.take n))=bL tP (x.take n):=rfl
  have b3:(Nat.beq (0+n) n&&Nat.ble (((0+n)+1)*32) room)=true:=by rw[ab1 (by omega),Nat.zero_add,Nat.beq_refl];rfl
  have l3:len (bL tP (x.take n++[y]))=n+1:=by rw[ga2,List.length_append,List.length_take];simp only[List.length_singleton];omega
  have b4:(Nat.beq ((0+n)+1) (n+1)&&Nat.ble ((((0+n)+1)+(x.length - n))*32) room)=true:=by rw[ab1 (by omega),Nat.zero_add,Nat.beq_refl];rfl
  have z0:∀ {k:Nat},Nat.beq k 0=true→k=0:=fun {k} h=>Nat.eq_of_beq_eq_true h
  have fin:ins x y=Ab0 x y n→∀ m r,m=x.length+1→r=bL tP (Ab0 x y n)→Rd (one (r1L tP)) (some (.sl 0 0 m 0,[⟨73,4,r,true,false,0⟩])) (fun r=>r=ins x y) :=
    fun hq m r hm hr=>te8 (by rw[hlen];exact hm) hr hq.symm
  have tail : ins x y = Ab0 x y n → Rd (one (r1L tP)) (sl (Nat.beq n 0) (sl (Nat.beq (x.length - n) 0) (some ((.sl 0 0 1 0), [⟨73, 4, [[(i y.n.x), (i y.n.y), (i y.n.z), (i y.b)]], true, false, 0⟩]))
      (some ((.sl 0 0 (1+(x.length - n)) 0),[⟨73,4,(app [[(i y.n.x),(i y.n.y),(i y.n.z),(i y.b)]] (bL tP (x.drop n))),true,false,0⟩])))
      (sl (Nat.beq (x.length - n) 0) (some ((.sl 0 0 ((0+n)+1) 0),[⟨73,4,bL tP (x.take n++[y]),true,false,0⟩]))
        (some ((.sl 0 0 (((0+n)+1)+(x.length - n)) 0),[⟨73,4,(app (bL tP (x.take n++[y])) (bL tP (x.drop n))),true,false,0⟩])))) (fun r=>r=ins x y):=fun hq=>by
    refine Rd.sl (fun q1=>Rd.sl (fun q2=>?_) (fun q2=>?_)) (fun q1=>Rd.sl (fun q2=>?_) (fun q2=>?_))
    · have:=z0 q1;have:=z0 q2
      refine fin hq _ _ (by omega) ?_
      have:x=[]:=List.eq_nil_of_length_eq_zero (by omega)
      subst this
      rw[show n=0 by omega];rfl
    · have:=z0 q1;subst this
      exact fin hq _ _ (by omega) rfl
    · have:=z0 q2
      refine fin hq _ _ (by omega) ?_
      unfold Ab0
      rw[show x.drop n=[] from List.drop_eq_nil_of_le (by omega)]
    · refine fin hq _ _ (by omega) ?_
      rw[Fa5]
      unfold Ab0
      rw[List.append_assoc];rfl
  unfold Pa2
  simp only[j8,j7]
  rw[h1]
  simp only[Int.toNat_natCast,Tc0 x n h3,Tc1,lt,ld,b1,b2,e0,b3,Hd4,l3,b4,hlo,q8]
  have main : Rd (one (r1L tP)) (sl (decide ((n : Int) < (x.length : Int))) (sl (inB (n : Int) x.length) (sl (((gL tP x n).n.x == y.n.x) && (((gL tP x n).n.y == y.n.y) && (((gL tP x n).n.z == y.n.z) && (((gL tP x n).b == y.b) && true)))) (some (eL tP x, []))
      (sl (Nat.beq n 0) (sl (Nat.beq (x.length - n) 0) (some ((.sl 0 0 1 0),[⟨73,4,[[(i y.n.x),(i y.n.y),(i y.n.z),(i y.b)]],true,false,0⟩]))
      (some ((.sl 0 0 (1+(x.length - n)) 0),[⟨73,4,(app [[(i y.n.x),(i y.n.y),(i y.n.z),(i y.b)]] (bL tP (x.drop n))),true,false,0⟩])))
      (sl (Nat.beq (x.length - n) 0) (some ((.sl 0 0 ((0+n)+1) 0),[⟨73,4,bL tP (x.take n++[y]),true,false,0⟩]))
        (some ((.sl 0 0 (((0+n)+1)+(x.length - n)) 0),[⟨73,4,(app (bL tP (x.take n++[y])) (bL tP (x.drop n))),true,false,0⟩]))))) none)
      (sl (Nat.beq n 0) (sl (Nat.beq (x.length - n) 0) (some ((.sl 0 0 1 0),[⟨73,4,[[(i y.n.x),(i y.n.y),(i y.n.z),(i y.b)]],true,false,0⟩]))
      (some ((.sl 0 0 (1+(x.length - n)) 0),[⟨73,4,(app [[(i y.n.x),(i y.n.y),(i y.n.z),(i y.b)]] (bL tP (x.drop n))),true,false,0⟩])))
      (sl (Nat.beq (x.length - n) 0) (some ((.sl 0 0 ((0+n)+1) 0),[⟨73,4,bL tP (x.take n++[y]),true,false,0⟩]))
        (some ((.sl 0 0 (((0+n)+1)+(x.length - n)) 0),[⟨73,4,(app (bL tP (x.take n++[y])) (bL tP (x.drop n))),true,false,0⟩]))))) (fun r=>r=ins x y):=by
    by_cases hn:n < x.length
    · rw[btD (i8 hn),bt (f7 hn)]
      exact Rd.sl (fun q=>⟨_,x,rfl,Zd6 tP x,by rw[hdef,if_pos ⟨hn,q⟩]⟩) fun q=>tail (by
        rw[hdef,if_neg fun h=>?_]
        have h:=h.2
        rw[show eqP (gL tP x n) y=false from q] at h
        cases h)
    · rw[bfD (i7 hn)]
      exact tail (by rw[hdef,if_neg fun h=>hn h.1])
  rcases h2 with rfl | rfl
  · exact main
  · exact main
theorem ve3 (x:List Pln) (y:Pln) (hx:x.length≤1000000):sa2 x y=ib7 x y:=(Td0 x y hx).p.trans (ue2 y x)
noncomputable def lb4 (l:List V3) (a c:Nat) (out:List Pln) (k:Nat):List Pln :=
  if (D7 (gL tV l a) (gL tV l c) (gL tV l k)).2 then
    (if hold (oa1 (D7 (gL tV l a) (gL tV l c) (gL tV l k)).1) l then ib7 (if hold (D7 (gL tV l a) (gL tV l c) (gL tV l k)).1 l then ib7 out (D7 (gL tV l a) (gL tV l c) (gL tV l k)).1 else out) (oa1 (D7 (gL tV l a) (gL tV l c) (gL tV l k)).1)
     else (if hold (D7 (gL tV l a) (gL tV l c) (gL tV l k)).1 l then ib7 out (D7 (gL tV l a) (gL tV l c) (gL tV l k)).1 else out))
  else out
noncomputable def F2 (l:List V3) (a:Nat) (out:List Pln) (c:Nat):List Pln:=(List.range c).foldl (lb4 l a c) out
noncomputable def F1 (l:List V3) (out:List Pln) (a:Nat):List Pln:=(List.range a).foldl (F2 l a) out
noncomputable def F0 (l:List V3):List Pln:=(List.range l.length).foldl (F1 l) []
theorem Nb0 (x:List Pln) (y:Pln):phP (ib7 x y)=1:=by
  cases h:ib7 x y with
  | nil=>exact absurd h (He7 _ _)
  | cons _ _=>rfl
theorem qc7 (l:List V3) (a c:Nat) (out:List Pln) (k:Nat):(lb4 l a c out k).length≤out.length+2:=by
  unfold lb4
  split
  · split
    · refine Nat.le_trans (sb3 _ _) ?_
      split
      · have:=sb3 (D7 (gL tV l a) (gL tV l c) (gL tV l k)).1 out;omega
      · omega
    · split
      · have:=sb3 (D7 (gL tV l a) (gL tV l c) (gL tV l k)).1 out;omega
      · omega
  · omega
theorem r4 {τ:Type} (f:τ→Nat→τ) (a:τ) (n:Nat):(List.range (n+1)).foldl f a=f ((List.range n).foldl f a) n:=by
  rw[List.range_succ,List.foldl_append];rfl
theorem sb4 {f:List Pln→Nat→List Pln} {m:Nat} (h:∀ o k,(f o k).length≤o.length+m) (o:List Pln):∀ n,((List.range n).foldl f o).length≤o.length+m*n
  | 0=>Nat.le_refl _
  | n+1=>by
    rw[r4]
    have h1:=h ((List.range n).foldl f o) n
    have h2:=sb4 h o n
    rw[Nat.mul_succ]
    omega
theorem gf7 (l : List V3) (hl : l.length ≤ 48) (a c : Nat) (ha : a < l.length) (hc : c < a) (out : List Pln) (ho : out.length ≤ 900000) :
    ∃ j,lp (ea8 ⟨l,(a:Int),(c:Int)⟩) ⟨phP out,0,out⟩=(phP (F2 l a out c)+1,⟨phP (F2 l a out c),((j:Nat):Int),F2 l a out c⟩):=by
  have key:=F5 (step:=ea8 ⟨l,(a:Int),(c:Int)⟩) (mk:=fun j (o:List Pln)=>(⟨phP o,(j:Int),o⟩:w9)) c (fun j o=>j≤c∧o=(List.range j).foldl (lb4 l a c) out) (fun t s=>t=phP (F2 l a out c)+1∧∃ j:Nat,s=⟨phP (F2 l a out c),(j:Int),F2 l a out c⟩) (by omega)
    (fun j o hj hi=>by
      obtain⟨_,hi⟩:=hi
      have hlen:o.length≤990000:=by
        rw[hi]
        have:=sb4 (qc7 l a c) out j
        omega
      have hn:=o6 hj (show c≤4611686018427387904 by omega)
      have hh:∀ p,ia3 p l=true:=fun p=>Ge9 p l (by omega)
      have hp:∀ p,oa2 p l=hold p l:=fun p=>Ie0 p l (by omega)
      have hg1:∀ y,sa3 o y=true:=fun y=>Pe8 o y (by omega)
      have hq1:∀ y,sa2 o y=ib7 o y:=fun y=>ve3 o y (by omega)
      have hg2:∀ y z,sa3 (ib7 o y) z=true:=fun y z=>Pe8 _ z (by have:=sb3 y o;omega)
      have hq2:∀ y z,sa2 (ib7 o y) z=ib7 (ib7 o y) z:=fun y z=>ve3 _ z (by have:=sb3 y o;omega)
      have hfl:Oa9 (D7 (gL tV l a) (gL tV l c) (gL tV l j)).1=oa1 (D7 (gL tV l a) (gL tV l c) (gL tV l j)).1:=ue8 (ae4 _ _ _)
      have fin : ∀ {s : w9}, s = ⟨phP (lb4 l a c o j), ((j + 1 : Nat) : Int), lb4 l a c o j⟩ → Nx (.next s) (fun t => t = phP (F2 l a out c) + 1 ∧ ∃ j' : Nat, (⟨phP o, (j : Int), o⟩ : w9) = ⟨phP (F2 l a out c), (j' : Int), F2 l a out c⟩)
          (fun s=>∃ o',s=(⟨phP o',((j+1:Nat):Int),o'⟩:w9)∧(j+1≤c∧o'=(List.range (j+1)).foldl (lb4 l a c) out)):=fun {s} hs =>
        .nx ⟨_,hs,by omega,by rw[r4,← hi]⟩
      clear hi
      unfold lb4 at fin
      generalize hT:D7 (gL tV l a) (gL tV l c) (gL tV l j)=T at *
      have hb1:inB (a:Int) l.length=true:=f7 ha
      have hb2:inB (c:Int) l.length=true:=f7 (by omega)
      have hb3:inB (j:Int) l.length=true:=f7 (by omega)
      cases o with
      | nil =>
        show Nx (Z9 Stp.next Stp.exit Stp.fail _ _) _ _
        simp only[Z9,pc9,Mb8,Int.toNat_natCast,j8,N6,hT,hh,hp,hfl,hg1,hq1,hg2,hq2,hn,hb1,hb2,hb3]
        rw[btD (i8 hj)]
        cases h2:T.2 with
        | false=>exact fin (by rw[h2];rfl)
        | true =>
          cases h3:hold T.1 l with
          | false =>
            cases h4:hold (oa1 T.1) l with
            | false=>exact fin (by rw[h2,h3,h4];rfl)
            | true=>exact fin (by rw[h2,h3,h4];simp only[if_true,if_false,Nb0,Bool.false_eq_true])
          | true =>
            cases h4:hold (oa1 T.1) l with
            | false=>exact fin (by rw[h2,h3,h4];simp only[if_true,if_false,Nb0,Bool.false_eq_true])
            | true=>exact fin (by rw[h2,h3,h4];simp only[if_true,Nb0])
      | cons q o =>
        show Nx (aa0 Stp.next Stp.exit Stp.fail _ _) _ _
        simp only[aa0,pc9,Mb8,Int.toNat_natCast,j8,N6,hT,hh,hp,hfl,hg1,hq1,hg2,hq2,hn,hb1,hb2,hb3]
        rw[btD (i8 hj)]
        cases h2:T.2 with
        | false=>exact fin (by rw[h2];rfl)
        | true =>
          cases h3:hold T.1 l with
          | false =>
            cases h4:hold (oa1 T.1) l with
            | false=>exact fin (by rw[h2,h3,h4];rfl)
            | true=>exact fin (by rw[h2,h3,h4];simp only[if_true,if_false,Nb0,Bool.false_eq_true])
          | true =>
            cases h4:hold (oa1 T.1) l with
            | false=>exact fin (by rw[h2,h3,h4];simp only[if_true,if_false,Nb0,Bool.false_eq_true])
            | true=>exact fin (by rw[h2,h3,h4];simp only[if_true,Nb0]))
    (fun j o hj hi=>by
      obtain⟨h1,hi⟩:=hi
      have e:j=c:=by omega
      subst e
      have hF:o=F2 l a out j:=hi
      rw[← hF]
      cases o with
      | nil =>
        refine⟨1,?_,rfl,j,rfl⟩
        show Z9 Stp.next Stp.exit Stp.fail _ _=_
        simp only[Z9]
        rw[bfD (i7 (Nat.lt_irrefl _))]
      | cons q o =>
        refine⟨2,?_,rfl,j,rfl⟩
        show aa0 Stp.next Stp.exit Stp.fail _ _=_
        simp only[aa0]
        rw[bfD (i7 (Nat.lt_irrefl _))]) 0 out ⟨Nat.zero_le _,rfl⟩
  obtain⟨t,s,h1,rfl,j,rfl⟩:=key
  exact⟨j,h1⟩
theorem gf8 (l : List V3) (hl : l.length ≤ 48) (a : Nat) (ha : a < l.length) (out : List Pln) (ho : out.length ≤ 800000) :
    ∃ j,lp (ea9 ⟨(a:Int)⟩) ⟨phP out,l,0,out⟩=(phP (F1 l out a)+1,⟨phP (F1 l out a),l,((j:Nat):Int),F1 l out a⟩):=by
  have hL2:∀ o k,k≤48→(F2 l a o k).length≤o.length+96:=fun o k hk=>by have:=sb4 (qc7 l a k) o k;show ((List.range k).foldl (lb4 l a k) o).length≤_;omega
  have hpre:∀ j,j≤a→((List.range j).foldl (F2 l a) out).length≤out.length+96*j:=by
    intro j
    induction j with
    | zero=>intro _;exact Nat.le_refl _
    | succ j ih =>
      intro h
      rw[r4]
      have:=ih (by omega)
      have:=hL2 ((List.range j).foldl (F2 l a) out) j (by omega)
      omega
  have key:=F5 (step:=ea9 ⟨(a:Int)⟩) (mk:=fun j (o:List Pln)=>(⟨phP o,l,(j:Int),o⟩:y5)) a (fun j o=>j≤a∧o=(List.range j).foldl (F2 l a) out) (fun t s=>t=phP (F1 l out a)+1∧∃ j:Nat,s=⟨phP (F1 l out a),l,(j:Int),F1 l out a⟩) (by omega)
    (fun j o hj hi=>by
      obtain⟨hja,hi⟩:=hi
      have hlen:o.length≤900000:=by rw[hi];have:=hpre j hja;omega
      have hn:=o6 hj (show a≤4611686018427387904 by omega)
      obtain⟨j',e1⟩:=gf7 l hl a j ha hj o hlen
      have fin : ∀ {s : y5}, s = ⟨phP (F2 l a o j), l, ((j + 1 : Nat) : Int), F2 l a o j⟩ → Nx (.next s) (fun t => t = phP (F1 l out a) + 1 ∧ ∃ j' : Nat, (⟨phP o, l, (j : Int), o⟩ : y5) = ⟨phP (F1 l out a), l, (j' : Int), F1 l out a⟩)
          (fun s=>∃ o',s=(⟨phP o',l,((j+1:Nat):Int),o'⟩:y5)∧(j+1≤a∧o'=(List.range (j+1)).foldl (F2 l a) out)):=fun {s} hs =>
        .nx ⟨_,hs,by omega,by rw[r4,← hi]⟩
      clear hi
      generalize hF:F2 l a o j=R at *
      cases o with
      | nil =>
        show Nx (aa1 Stp.next Stp.exit Stp.fail _ _) _ _
        simp only[aa1,j8,j7,hn]
        have e1:lp (ea8 ⟨l,(a:Int),(j:Int)⟩) ⟨0,0,[]⟩=_:=e1
        rw[btD (i8 hj),e1]
        cases R with
        | nil=>exact fin rfl
        | cons q R=>exact fin rfl
      | cons q o =>
        show Nx (aa2 Stp.next Stp.exit Stp.fail _ _) _ _
        simp only[aa2,j8,j7,hn]
        have e1:lp (ea8 ⟨l,(a:Int),(j:Int)⟩) ⟨1,0,q::o⟩=_:=e1
        rw[btD (i8 hj),e1]
        cases R with
        | nil=>exact fin rfl
        | cons q R=>exact fin rfl)
    (fun j o hj hi=>by
      obtain⟨h1,hi⟩:=hi
      have e:j=a:=by omega
      subst e
      have hF:o=F1 l out j:=hi
      rw[← hF]
      cases o with
      | nil =>
        refine⟨1,?_,rfl,j,rfl⟩
        show aa1 Stp.next Stp.exit Stp.fail _ _=_
        simp only[aa1]
        rw[bfD (i7 (Nat.lt_irrefl _))]
      | cons q o =>
        refine⟨2,?_,rfl,j,rfl⟩
        show aa2 Stp.next Stp.exit Stp.fail _ _=_
        simp only[aa2]
        rw[bfD (i7 (Nat.lt_irrefl _))]) 0 out ⟨Nat.zero_le _,rfl⟩
  obtain⟨t,s,h1,rfl,j,rfl⟩:=key
  exact⟨j,h1⟩
theorem gf9 (l : List V3) (hl : l.length ≤ 48) :
    ∃ j,lp (Ja3 ⟨⟩) ⟨0,l,0,[]⟩=(phP (F0 l)+1,⟨phP (F0 l),l,((j:Nat):Int),F0 l⟩):=by
  have hL2:∀ a o k,k≤48→(F2 l a o k).length≤o.length+96:=fun a o k hk=>by have:=sb4 (qc7 l a k) o k;show ((List.range k).foldl (lb4 l a k) o).length≤_;omega
  have hL1:∀ o a,a≤48→∀ j,j≤a→((List.range j).foldl (F2 l a) o).length≤o.length+96*j:=by
    intro o a ha j
    induction j with
    | zero=>intro _;exact Nat.le_refl _
    | succ j ih =>
      intro h
      rw[r4]
      have:=ih (by omega)
      have:=hL2 a ((List.range j).foldl (F2 l a) o) j (by omega)
      omega
  have hpre:∀ j,j≤l.length→((List.range j).foldl (F1 l) []).length≤5000*j:=by
    intro j
    induction j with
    | zero=>intro _;exact Nat.le_refl _
    | succ j ih =>
      intro h
      rw[r4]
      have:=ih (by omega)
      have:(F1 l ((List.range j).foldl (F1 l) []) j).length≤_:=hL1 ((List.range j).foldl (F1 l) []) j (by omega) j (Nat.le_refl _)
      omega
  have key:=F5 (step:=Ja3 ⟨⟩) (mk:=fun j (o:List Pln)=>(⟨phP o,l,(j:Int),o⟩:A2)) l.length (fun j o=>j≤l.length∧o=(List.range j).foldl (F1 l) []) (fun t s=>t=phP (F0 l)+1∧∃ j:Nat,s=⟨phP (F0 l),l,(j:Int),F0 l⟩) (by omega)
    (fun j o hj hi=>by
      obtain⟨hja,hi⟩:=hi
      have hlen:o.length≤800000:=by rw[hi];have:=hpre j hja;omega
      have hn:=o6 hj (show l.length≤4611686018427387904 by omega)
      obtain⟨j',e1⟩:=gf8 l hl j hj o hlen
      have fin : ∀ {s : A2}, s = ⟨phP (F1 l o j), l, ((j + 1 : Nat) : Int), F1 l o j⟩ → Nx (.next s) (fun t => t = phP (F0 l) + 1 ∧ ∃ j' : Nat, (⟨phP o, l, (j : Int), o⟩ : A2) = ⟨phP (F0 l), l, (j' : Int), F0 l⟩)
          (fun s=>∃ o',s=(⟨phP o',l,((j+1:Nat):Int),o'⟩:A2)∧(j+1≤l.length∧o'=(List.range (j+1)).foldl (F1 l) [])):=fun {s} hs =>
        .nx ⟨_,hs,by omega,by rw[r4,← hi]⟩
      clear hi
      generalize hF:F1 l o j=R at *
      cases o with
      | nil =>
        show Nx (aa3 Stp.next Stp.exit Stp.fail ⟨⟩ _) _ _
        simp only[aa3,j8,j7,hn]
        have e1:lp (ea9 ⟨(j:Int)⟩) ⟨0,l,0,[]⟩=_:=e1
        rw[btD (i8 hj),e1]
        cases R with
        | nil=>exact fin rfl
        | cons q R=>exact fin rfl
      | cons q o =>
        show Nx (aa4 Stp.next Stp.exit Stp.fail ⟨⟩ _) _ _
        simp only[aa4,j8,j7,hn]
        have e1:lp (ea9 ⟨(j:Int)⟩) ⟨1,l,0,q::o⟩=_:=e1
        rw[btD (i8 hj),e1]
        cases R with
        | nil=>exact fin rfl
        | cons q R=>exact fin rfl)
    (fun j o hj hi=>by
      obtain⟨h1,hi⟩:=hi
      have e:j=l.length:=by omega
      subst e
      have hF:o=F0 l:=hi
      rw[← hF]
      cases o with
      | nil =>
        refine⟨1,?_,rfl,_,rfl⟩
        show aa3 Stp.next Stp.exit Stp.fail ⟨⟩ _=_
        simp only[aa3]
        rw[bfD (i7 (Nat.lt_irrefl _))]
      | cons q o =>
        refine⟨2,?_,rfl,_,rfl⟩
        show aa4 Stp.next Stp.exit Stp.fail ⟨⟩ _=_
        simp only[aa4]
        rw[bfD (i7 (Nat.lt_irrefl _))]) 0 [] ⟨Nat.zero_le _,rfl⟩
  obtain⟨t,s,h1,rfl,j,rfl⟩:=key
  exact⟨j,h1⟩
noncomputable def ud8 (l:List V3):List Pln×Int:=if Pb2 l=0 then (F0 l,0) else ([],Pb2 l)
theorem ve4 (l:List V3) (hl:l.length≤48):Rd (two (r1L tP) r1I) (va4 l) (fun r=>r=ud8 l):=by
  obtain⟨j,e1⟩:=gf9 l hl
  have hb:l.length≤1000000000:=by omega
  unfold va4 ud8
  simp only[j8,j7,N6,ld3 l hb,ld9 l hb,q8]
  rw[e1]
  by_cases h0:Pb2 l=0
  · rw[if_pos h0,show (Pb2 l != 0)=false by rw[h0];rfl,Db6]
    cases hF:F0 l with
    | nil=>exact⟨_,([],0),rfl,rfl,rfl⟩
    | cons q o=>exact⟨_,(q::o,0),rfl,We2 (q::o) 0,rfl⟩
  · rw[if_neg h0,show (Pb2 l != 0)=true by simpa using h0,q8]
    exact⟨_,([],Pb2 l),rfl,rfl,rfl⟩
end Go.Ev.Ce
namespace Go.Ev.Ce
open Go Go.Ev Go.Ev.L Go.Proofs
def gc2 (l:List Pln) (p:Pln):Bool:=l.any fun q=>eqP q p
theorem Id0 (l:List Pln) (p:Pln):gc2 l p=true↔p∈l:=by
 unfold gc2
 rw[List.any_eq_true]
 exact⟨fun⟨q,h,e⟩=>by rw[fc6] at e;exact e ▸ h,fun h=>⟨p,h,(fc6 p p).2 rfl⟩⟩
end Go.Ev.Ce
namespace Go.Ev.Ce
open Go Go.Ev Go.Ev.L Go.Proofs
theorem Td1 {p:Pln} (h:okp p=true):g3 p.n=1:=by
 unfold okp at h
 simp only[Bool.and_eq_true,beq_iff_eq] at h
 exact h.2.1
theorem ae5 {p:Pln} (h:okp p=true):p.n≠⟨0,0,0⟩:=fun e=>by
 have:=Td1 h
 rw[e] at this
 revert this
 decide
theorem ve5 (c:Int) (n:V3):g3 ⟨c*n.x,c*n.y,c*n.z⟩=c.natAbs*g3 n:=by
 unfold g3
 simp only[Int.natAbs_mul,Nat.gcd_mul_left]
 rw[Int.natCast_mul]
theorem ve6 {m n:V3} (hm:g3 m=1) (hn:g3 n=1) (h:f0 m n=⟨0,0,0⟩):n=m∨n=neg m:=by
 unfold f0 at h
 simp only[V3.mk.injEq] at h
 obtain⟨c1,c2,c3⟩:=h
 have k:∀ {c d:Int},c*m.x=d*n.x→c*m.y=d*n.y→c*m.z=d*n.z→c.natAbs=d.natAbs:=fun {c d} e1 e2 e3=>by
  have a1:=ve5 c m
  have a2:=ve5 d n
  rw[e1,e2,e3,a2,hm,hn] at a1
  omega
 have ax:=k (c:=n.x) (d:=m.x) (by grind) (by grind) (by grind)
 have ay:=k (c:=n.y) (d:=m.y) (by grind) (by grind) (by grind)
 have az:=k (c:=n.z) (d:=m.z) (by grind) (by grind) (by grind)
 have sg:∀ {a c:Int},a.natAbs=c.natAbs→a=c∨a=-c:=fun h=>by omega
 -- the sign of one component that is not zero is that of all
 have go:∀ {s u t v:Int},u≠0→s*v=u*t→s=u→t=v:=fun {s u t v} hu h e=>by
  subst e
  exact (Int.eq_of_mul_eq_mul_left hu h).symm
 have gn:∀ {s u t v:Int},u≠0→s*v=u*t→s=-u→t=-v:=fun {s u t v} hu h e=>by
  subst e
  have:u*t=u*(-v):=by rw[← h];grind
  exact Int.eq_of_mul_eq_mul_left hu this
 by_cases hx:m.x=0
 ·have hx':n.x=0:=by omega
  by_cases hy:m.y=0
  ·have hy':n.y=0:=by omega
   rcases sg az with e | e
   ·exact .inl (V3.ext' (by omega) (by omega) e)
   ·exact .inr (V3.ext' (by show n.x=-m.x;omega) (by show n.y=-m.y;omega) e)
  ·rcases sg ay with e | e
   ·exact .inl (V3.ext' (by omega) e (go hy (by grind) e))
   ·exact .inr (V3.ext' (by show n.x=-m.x;omega) e (gn hy (by grind) e))
 ·rcases sg ax with e | e
  ·exact .inl (V3.ext' e (go hx (by grind) e) (go hx (by grind) e))
  ·exact .inr (V3.ext' e (gn hx (by grind) e) (gn hx (by grind) e))
structure sf1 (l:List V3):Prop where
 h:∃ a c k v,a∈l∧c∈l∧k∈l∧v∈l∧dot (f0 (sub c a) (sub k a)) (sub v a)≠0
theorem gLm {l:List V3} {j:Nat} (h:j < l.length):gL tV l j∈l:=Pa5 tV h
theorem sf2 {l:List V3} (hf:nf0 l=true):sf1 l:=by
 unfold nf0 at hf
 obtain⟨a,ha,hf⟩:=List.any_eq_true.1 hf
 unfold nf1 at hf
 obtain⟨c,hc,hf⟩:=List.any_eq_true.1 hf
 unfold nf2 at hf
 obtain⟨k,hk,hf⟩:=List.any_eq_true.1 hf
 rw[List.mem_range] at ha hc hk
 unfold nf at hf
 rw[Bool.and_eq_true] at hf
 obtain⟨h1,h2⟩:=hf
 obtain⟨⟨i1,i2,i3⟩,⟨ok,⟨g,hg,e1,e2,e3⟩,o⟩⟩:=Ea8 h1
 unfold ie1 at h2
 obtain⟨v,hv,h2⟩:=List.any_eq_true.1 h2
 generalize (D7 (gL tV l a) (gL tV l c) (gL tV l k)).1=p at *
 refine⟨_,_,_,v,gLm ha,gLm (show c < l.length by omega),gLm (show k < l.length by omega),hv,fun h0=>?_⟩
 have hs:U9 p v≠0:=by simpa using h2
 have hiv:inV v=true:=by
  cases hi:inV v with
  | true=>rfl
  | false=>exact absurd (by unfold U9;rw[ok,hi];rfl) hs
 apply hs
 rw[Mb9 ok hiv,o]
 have:g*(dot p.n v - dot p.n (gL tV l a))=dot (f0 (sub (gL tV l c) (gL tV l a)) (sub (gL tV l k) (gL tV l a))) (sub v (gL tV l a)):=by
  unfold dot
  rw[← e1,← e2,← e3]
  unfold sub
  grind
 rw[h0] at this
 have:=(Int.mul_eq_zero.1 this).resolve_left (by omega)
 omega
theorem sb5 {p:Pln} {l:List V3} (hp:okp p=true) (hl:l.all inV=true):hold p l=true↔∀ v∈l,dot p.n v≤p.b:=by
 unfold hold
 rw[Bool.not_eq_true',← Bool.not_eq_true,List.any_eq_true]
 constructor
 ·intro h v hv
  have h1:¬ U9 p v > 0:=fun h'=>h ⟨v,hv,by simpa using h'⟩
  rw[Hd9 hp (List.all_eq_true.1 hl v hv)] at h1
  omega
 ·rintro h ⟨v,hv,h1⟩
  have h1:U9 p v > 0:=by simpa using h1
  rw[Hd9 hp (List.all_eq_true.1 hl v hv)] at h1
  have:=h v hv
  omega
structure Fct (l:List V3) (p:Pln):Prop where
 ok:okp p=true
 hd:hold p l=true
theorem Tc6 (p:Pln) (v:V3):dot (oa1 p).n v=-dot p.n v:=by unfold dot oa1;grind
theorem ie2 (l : List V3) (a c k : Nat) (out : List Pln) (p : Pln) : p ∈ lb4 l a c out k ↔ p ∈ out ∨ ((D7 (gL tV l a) (gL tV l c) (gL tV l k)).2 = true ∧
  ((p=(D7 (gL tV l a) (gL tV l c) (gL tV l k)).1∧hold p l=true)∨(p=oa1 (D7 (gL tV l a) (gL tV l c) (gL tV l k)).1∧hold p l=true))):=by
 unfold lb4
 generalize D7 (gL tV l a) (gL tV l c) (gL tV l k)=T
 cases h2:T.2 with
 | false=>simp
 | true =>
  simp only[if_true]
  cases h4:hold (oa1 T.1) l with
  | false =>
   simp only[Bool.false_eq_true,if_false]
   cases h3:hold T.1 l with
   | false =>
    simp only[Bool.false_eq_true,if_false]
    constructor
    ·exact fun h=>.inl h
    ·rintro (h | ⟨_,⟨rfl,h⟩ | ⟨rfl,h⟩⟩)
     ·exact h
     ·rw[h3] at h;cases h
     ·rw[h4] at h;cases h
   | true =>
    simp only[if_true,sb2]
    constructor
    ·rintro (rfl | h)
     ·exact .inr ⟨trivial,.inl ⟨rfl,h3⟩⟩
     ·exact .inl h
    ·rintro (h | ⟨_,⟨rfl,h⟩ | ⟨rfl,h⟩⟩)
     ·exact .inr h
     ·exact .inl rfl
     ·rw[h4] at h;cases h
  | true =>
   simp only[if_true,sb2]
   cases h3:hold T.1 l with
   | false =>
    simp only[Bool.false_eq_true,if_false]
    constructor
    ·rintro (rfl | h)
     ·exact .inr ⟨trivial,.inr ⟨rfl,h4⟩⟩
     ·exact .inl h
    ·rintro (h | ⟨_,⟨rfl,h⟩ | ⟨rfl,h⟩⟩)
     ·exact .inr h
     ·rw[h3] at h;cases h
     ·exact .inl rfl
   | true =>
    simp only[if_true,sb2]
    constructor
    ·rintro (rfl | rfl | h)
     ·exact .inr ⟨trivial,.inr ⟨rfl,h4⟩⟩
     ·exact .inr ⟨trivial,.inl ⟨rfl,h3⟩⟩
     ·exact .inl h
    ·rintro (h | ⟨_,⟨rfl,h⟩ | ⟨rfl,h⟩⟩)
     ·exact .inr (.inr h)
     ·exact .inr (.inl rfl)
     ·exact .inl rfl
theorem gb8 {f:List Pln→Nat→List Pln} {Q:Nat→Pln→Prop} (h:∀ o k p,p∈f o k↔p∈o∨Q k p) (o:List Pln) (p:Pln):∀ n,p∈(List.range n).foldl f o↔p∈o∨∃ k,k < n∧Q k p
 | 0=>by simp
 | n+1=>by
  rw[r4,h,gb8 h o p n]
  constructor
  ·rintro ((h | ⟨k,hk,h⟩) | h)
   ·exact .inl h
   ·exact .inr ⟨k,by omega,h⟩
   ·exact .inr ⟨n,by omega,h⟩
  ·rintro (h | ⟨k,hk,h⟩)
   ·exact .inl (.inl h)
   ·by_cases e:k=n
    ·subst e;exact .inr h
    ·exact .inl (.inr ⟨k,by omega,h⟩)
def Fq (l : List V3) (a c k : Nat) (p : Pln) : Prop := (D7 (gL tV l a) (gL tV l c) (gL tV l k)).2 = true ∧
  ((p=(D7 (gL tV l a) (gL tV l c) (gL tV l k)).1∧hold p l=true)∨(p=oa1 (D7 (gL tV l a) (gL tV l c) (gL tV l k)).1∧hold p l=true))
theorem We9 (l:List V3) (a c:Nat) (out:List Pln) (p:Pln):p∈F2 l a out c↔p∈out∨∃ k,k < c∧Fq l a c k p:=gb8 (fun o k p=>ie2 l a c k o p) out p c
theorem Xe0 (l:List V3) (a:Nat) (out:List Pln) (p:Pln):p∈F1 l out a↔p∈out∨∃ c,c < a∧∃ k,k < c∧Fq l a c k p:=gb8 (fun o c p=>We9 l a c o p) out p a
theorem Td2 (l:List V3) (p:Pln):p∈F0 l↔∃ a,a < l.length∧∃ c,c < a∧∃ k,k < c∧Fq l a c k p:=by
 have:=gb8 (fun o a p=>Xe0 l a o p) [] p l.length
 simpa [F0] using this
theorem ie3 {l:List V3} {a c:Nat} {out:List Pln} {k:Nat} (h:Xa9 out):Xa9 (lb4 l a c out k):=by
 unfold lb4
 split
 ·split
  ·refine gc0 _ ?_
   split
   ·exact gc0 _ h
   ·exact h
  ·split
   ·exact gc0 _ h
   ·exact h
 ·exact h
theorem gc3 {f:List Pln→Nat→List Pln} (h:∀ o k,Xa9 o→Xa9 (f o k)) {o:List Pln} (ho:Xa9 o):∀ n,Xa9 ((List.range n).foldl f o)
 | 0=>ho
 | n+1=>by rw[r4];exact h _ _ (gc3 h ho n)
theorem Xe1 {l:List V3} {a c:Nat} {out:List Pln} (h:Xa9 out):Xa9 (F2 l a out c):=gc3 (fun _ _ h=>ie3 h) h c
theorem Xe2 {l:List V3} {a:Nat} {out:List Pln} (h:Xa9 out):Xa9 (F1 l out a):=gc3 (fun _ _ h=>Xe1 h) h a
theorem Xe3 (l:List V3):Xa9 (F0 l):=gc3 (fun _ _ h=>Xe2 h) .nil l.length
theorem ve7 {l:List V3} {p:Pln} (hp:p∈F0 l):Fct l p:=by
 obtain⟨a,ha,c,hc,k,hk,h1,⟨h2,h3⟩ | ⟨h2,h3⟩⟩:=(Td2 l p).1 hp
 ·exact⟨h2 ▸ (Ea8 h1).2.ok,h3⟩
 ·exact⟨h2 ▸ gc1 (Ea8 h1).2.ok,h3⟩
end Go.Ev.Ce
namespace Go.Ev.Ce
open Go Go.Ev Go.Ev.L Go.Proofs
structure hf0 (c:List Pln):Prop where
 l:c.length≤47
 v:∀ p∈c,okp p=true
 f:sf0 (c++ws)
theorem hf0.chk {c:List Pln} (h:hf0 c):(chk c==0)=true:=by
 rw[beq_iff_eq,se9]
 exact⟨by have:=h.l;omega,h.v⟩
end Go.Ev.Ce
namespace Go.Ev.Ce
def X1 (a b:V3):V3:=⟨a.x - b.x,a.y - b.y,a.z - b.z⟩
def N3 (u w x:V3):V3:=f0 (X1 w u) (X1 x u)
def Ab1:List V3→V3
 | []=>⟨0,0,0⟩
 | v::l=>⟨v.x+(Ab1 l).x,v.y+(Ab1 l).y,v.z+(Ab1 l).z⟩
def gc4:List Int→Int
 | []=>0
 | x::l=>x+gc4 l
theorem Id1 (n:V3):∀ l:List V3,dot n (Ab1 l)=gc4 (l.map (dot n))
 | []=>by simp[Ab1,gc4,dot]
 | v::l=>by
  have:=Id1 n l
  simp only[List.map_cons,gc4,← this]
  simp only[Ab1,dot]
  grind
theorem Id2 (m s:Int):∀ l:List Int,gc4 (l.map fun a=>m*a - s)=m*gc4 l - s*l.length
 | []=>by simp[gc4]
 | a::l=>by
  have:=Id2 m s l
  simp only[List.map_cons,gc4,this,List.length_cons]
  grind
theorem vc7:∀ {l:List Int},(∀ a∈l,a≤0)→gc4 l≤0
 | [],_=>by simp[gc4]
 | a::l,h=>by
  have:=vc7 (l:=l) fun x hx=>h x (List.mem_cons_of_mem _ hx)
  have:=h a List.mem_cons_self
  simp only[gc4]
  omega
theorem qc8:∀ {l:List Int},(∀ a∈l,a≤0)→gc4 l=0→∀ a∈l,a=0
 | [],_,_=>fun a ha=>by cases ha
 | a::l,h,h0=>by
  have h1:=vc7 (l:=l) fun x hx=>h x (List.mem_cons_of_mem _ hx)
  have h2:=h a List.mem_cons_self
  simp only[gc4] at h0
  intro b hb
  rcases List.mem_cons.1 hb with rfl | hb
  ·omega
  ·exact qc8 (l:=l) (fun x hx=>h x (List.mem_cons_of_mem _ hx)) (by omega) b hb
def Sol (l:List V3):Prop:=∃ a c k v,a∈l∧c∈l∧k∈l∧v∈l∧dot (N3 a c k) (X1 v a)≠0
theorem Sol.off {l:List V3} (h:Sol l) {n:V3} (hn:n≠⟨0,0,0⟩) (b:Int):∃ v∈l,dot n v≠b:=by
 obtain⟨a,c,k,v,ha,hc,hk,hv,hd⟩:=h
 by_cases h1:dot n a=b
 ·by_cases h2:dot n c=b
  ·by_cases h3:dot n k=b
   ·by_cases h4:dot n v=b
    ·exfalso
     unfold N3 at hd
     generalize hD:dot (f0 (X1 c a) (X1 k a)) (X1 v a)=D at *
     have q1:dot n (X1 c a)=0:=by unfold dot X1 at *;grind
     have q2:dot n (X1 k a)=0:=by unfold dot X1 at *;grind
     have q3:dot n (X1 v a)=0:=by unfold dot X1 at *;grind
     generalize X1 c a=p at *
     generalize X1 k a=q at *
     generalize X1 v a=r at *
     have i1:D*n.x=(f0 q r).x*dot n p+(f0 r p).x*dot n q+(f0 p q).x*dot n r:=by rw[← hD];simp only[dot,f0];grind
     have i2:D*n.y=(f0 q r).y*dot n p+(f0 r p).y*dot n q+(f0 p q).y*dot n r:=by rw[← hD];simp only[dot,f0];grind
     have i3:D*n.z=(f0 q r).z*dot n p+(f0 r p).z*dot n q+(f0 p q).z*dot n r:=by rw[← hD];simp only[dot,f0];grind
     rw[q1,q2,q3] at i1 i2 i3
     have z:∀ {x:Int},D*x=0→x=0:=fun h=>(Int.mul_eq_zero.1 h).resolve_left hd
     exact hn (V3.ext' (z (by omega)) (z (by omega)) (z (by omega)))
    ·exact⟨v,hv,h4⟩
   ·exact⟨k,hk,h3⟩
  ·exact⟨c,hc,h2⟩
 ·exact⟨a,ha,h1⟩
theorem Sol.ne {l:List V3} (h:Sol l):∃ v,v∈l:=by obtain⟨a,_,_,_,ha,_⟩:=h;exact⟨a,ha⟩
structure Fac (l:List V3) (n:V3) (b:Int):Prop where
 hd:∀ v∈l,dot n v≤b
 on:∃ u w x,u∈l∧w∈l∧x∈l∧N3 u w x≠⟨0,0,0⟩∧dot n u=b∧dot n w=b∧dot n x=b
def hf3 (l:List V3) (c:List Pln):Prop:=∀ n b,n≠⟨0,0,0⟩→Fac l n b→∃ s t:Int,0 < s∧0 < t∧∃ q∈c,t*q.n.x=s*n.x∧t*q.n.y=s*n.y∧t*q.n.z=s*n.z∧t*q.b=s*b
def pol (m:Int) (S v:V3):Pln:=⟨⟨m*v.x - S.x,m*v.y - S.y,m*v.z - S.z⟩,1⟩
theorem Ie1 (m:Int) (S v d:V3):dot (pol m S v).n d=m*dot d v - dot d S:=by simp only[dot,pol];grind
theorem Id3 (l:List V3) (d:V3):gc4 (l.map fun v=>(l.length:Int)*dot d v - dot d (Ab1 l))=0:=by
 have h:=Id2 (l.length:Int) (dot d (Ab1 l)) (l.map (dot d))
 rw[List.map_map] at h
 have e:((fun a=>(l.length:Int)*a - dot d (Ab1 l))∘dot d)=fun v=>(l.length:Int)*dot d v - dot d (Ab1 l):=rfl
 rw[e] at h
 rw[h,← Id1,List.length_map]
 grind
theorem ie4 {a b:V3} (h:dot a b≠0):b≠⟨0,0,0⟩:=fun e=>h (by subst e;simp[dot])
theorem Tc7 {a b:V3} (h:dot a b≠0):a≠⟨0,0,0⟩:=fun e=>h (by subst e;simp[dot])
theorem ae6 {l:List V3} (h:Sol l):0 < (l.length:Int):=by
 obtain⟨v,hv⟩:=h.ne
 have:=List.length_pos_of_mem hv
 omega
theorem Ie2 {l:List V3} (h:Sol l):Bdd (l.map (pol l.length (Ab1 l))):=fun d hd=>by
 by_cases hh:∃ p∈l.map (pol l.length (Ab1 l)),0 < dot p.n d
 ·exact hh
 exfalso
 have hm:=ae6 h
 have hall:∀ a∈l.map (fun v=>(l.length:Int)*dot d v - dot d (Ab1 l)),a≤0:=fun a ha=>by
  obtain⟨v,hv,rfl⟩:=List.mem_map.1 ha
  refine Int.not_lt.1 fun h'=>hh ⟨pol l.length (Ab1 l) v,List.mem_map.2 ⟨v,hv,rfl⟩,?_⟩
  rw[Ie1]
  omega
 have hz:=qc8 hall (Id3 l d)
 obtain⟨a,ha⟩:=h.ne
 obtain⟨v,hv,hne⟩:=h.off hd (dot d a)
 have e1:=hz _ (List.mem_map.2 ⟨a,ha,rfl⟩)
 have e2:=hz _ (List.mem_map.2 ⟨v,hv,rfl⟩)
 apply hne
 have:(l.length:Int)*(dot d v - dot d a)=0:=by grind
 have:=(Int.mul_eq_zero.1 this).resolve_left (by omega)
 omega
theorem ie5 {l:List V3} (h4:Sol l) {c:List Pln} (hc:hf3 l c) {x:Pt} (hx:Inr c x) {h:Pln} (hh:∀ v∈l,dot h.n v≤h.b):0≤rmZ h x:=by
 have hm:=ae6 h4
 have hr:=Ie2 h4
 generalize hS:Ab1 l=S at hr
 generalize hM:(l.length:Int)=m at hr hm
 -- the linear function on the polar
 have hv:∀ y,Cn (l.map (pol m S)) y→0≤rmZ ⟨⟨m*x.px - x.pw*S.x,m*x.py - x.pw*S.y,m*x.pz - x.pw*S.z⟩,x.pw⟩ y:=fun y hy=>by
  obtain⟨p1,p2,p3,hp1,hp2,hp3,hw,e1,e2,e3⟩:=hy.c
  obtain⟨v1,m1,rfl⟩:=List.mem_map.1 hp1
  obtain⟨v2,m2,rfl⟩:=List.mem_map.1 hp2
  obtain⟨v3,m3,rfl⟩:=List.mem_map.1 hp3
  have rp:∀ v,rmZ (pol m S v) y=y.pw - (m*dot ⟨y.px,y.py,y.pz⟩ v - dot ⟨y.px,y.py,y.pz⟩ S):=fun v=>by simp only[rmZ,pol,dot];grind
  rw[rp] at e1 e2 e3
  have hn3:dot (pol m S v1).n (N3 v1 v2 v3)≠0:=fun h0=>hw (by
   have:mw (pol m S v1) (pol m S v2) (pol m S v3)=m*m*dot (pol m S v1).n (N3 v1 v2 v3):=by simp only[mw,pol,dot,N3,f0,X1];grind
   rw[this,h0,Int.mul_zero])
  have hne:N3 v1 v2 v3≠⟨0,0,0⟩:=ie4 hn3
  have hfac:Fac l ⟨m*y.px,m*y.py,m*y.pz⟩ (y.pw+dot ⟨y.px,y.py,y.pz⟩ S):=by
   have ed:∀ v,dot ⟨m*y.px,m*y.py,m*y.pz⟩ v=m*dot ⟨y.px,y.py,y.pz⟩ v:=fun v=>by simp only[dot];grind
   refine⟨fun v hv=>?_,v1,v2,v3,m1,m2,m3,hne,?_,?_,?_⟩
   ·have:=hy.h (pol m S v) (List.mem_map.2 ⟨v,hv,rfl⟩)
    rw[rp] at this
    rw[ed];omega
   ·rw[ed];omega
   ·rw[ed];omega
   ·rw[ed];omega
  have hyn:(⟨m*y.px,m*y.py,m*y.pz⟩:V3)≠⟨0,0,0⟩:=fun e=>by
   have k:∀ {a:Int},m*a=0→a=0:=fun h=>(Int.mul_eq_zero.1 h).resolve_left (by omega)
   simp only[V3.mk.injEq] at e
   have a1:=k e.1;have a2:=k e.2.1;have a3:=k e.2.2
   rw[a1,a2,a3] at e1
   have hw:=hy.w
   simp only[dot] at e1
   simp only[Int.zero_mul,Int.add_zero,Int.mul_zero,Int.sub_zero] at e1
   omega
  obtain⟨s,t,hs,ht,q,hq,f1,f2,f3,f4⟩:=hc _ _ hyn hfac
  have hxq:=hx.h q hq
  have e:t*rmZ q x=s*rmZ ⟨⟨m*x.px - x.pw*S.x,m*x.py - x.pw*S.y,m*x.pz - x.pw*S.z⟩,x.pw⟩ y:=by
   have:t*rmZ q x=(t*q.b)*x.pw - ((t*q.n.x)*x.px+(t*q.n.y)*x.py+(t*q.n.z)*x.pz):=by simp only[rmZ];grind
   rw[this,f1,f2,f3,f4]
   simp only[rmZ,dot];grind
  have h1:=Int.mul_nonneg (Int.le_of_lt ht) hxq
  rw[e] at h1
  exact Int.nonneg_of_mul_nonneg_right h1 hs
 by_cases hn:h.n=⟨0,0,0⟩
 ·obtain⟨v,hv⟩:=h4.ne
  have h1:=hh v hv
  have e:rmZ h x=h.b*x.pw:=by simp only[rmZ,hn];grind
  rw[e]
  rw[hn] at h1
  simp only[dot,Int.zero_mul,Int.add_zero] at h1
  exact Int.mul_nonneg h1 (Int.le_of_lt hx.w)
 ·-- the polar point of h
  have hall:∀ a∈l.map (fun v=>(l.length:Int)*dot h.n v - dot h.n (Ab1 l)),a≤(l.length:Int)*h.b - dot h.n (Ab1 l):=fun a ha=>by
   obtain⟨v,hv,rfl⟩:=List.mem_map.1 ha
   have:=Int.mul_le_mul_of_nonneg_left (hh v hv) (show 0≤(l.length:Int) by omega)
   omega
  have hpos:0 < m*h.b - dot h.n S:=by
   rw[← hM,← hS]
   by_cases h0:0 < (l.length:Int)*h.b - dot h.n (Ab1 l)
   ·exact h0
   exfalso
   have hz:=qc8 (fun a ha=>by have:=hall a ha;omega) (Id3 l h.n)
   obtain⟨v,hv,hne⟩:=h4.off hn h.b
   have e1:=hz _ (List.mem_map.2 ⟨v,hv,rfl⟩)
   have h2:=hh v hv
   have:(l.length:Int)*dot h.n v < (l.length:Int)*h.b:=Int.mul_lt_mul_of_pos_left (by omega) (by omega)
   omega
  have hy:Inr (l.map (pol m S)) ⟨h.n.x,h.n.y,h.n.z,m*h.b - dot h.n S⟩:=⟨hpos,fun p hp=>by
   obtain⟨v,hv,rfl⟩:=List.mem_map.1 hp
   have e:rmZ (pol m S v) ⟨h.n.x,h.n.y,h.n.z,m*h.b - dot h.n S⟩=m*(h.b - dot h.n v):=by simp only[rmZ,pol,dot];grind
   rw[e]
   exact Int.mul_nonneg (by omega) (by have:=hh v hv;omega)⟩
  have h1:=Cc6 hr hv hy
  have e:rmZ ⟨⟨m*x.px - x.pw*S.x,m*x.py - x.pw*S.y,m*x.pz - x.pw*S.z⟩,x.pw⟩ ⟨h.n.x,h.n.y,h.n.z,m*h.b - dot h.n S⟩=m*rmZ h x:=by simp only[rmZ,dot];grind
  rw[e] at h1
  exact Int.nonneg_of_mul_nonneg_right h1 hm
end Go.Ev.Ce
namespace Go.Ev.Ce
open Go Go.Ev Go.Ev.L Go.Proofs
theorem Xe4 {l:List V3} (hf:nf0 l=true):Sol l:=(sf2 hf).h
theorem Ie3 {v:V3} (h:g3 v=0):v=⟨0,0,0⟩:=by
 unfold g3 at h
 have h:Nat.gcd (Nat.gcd v.x.natAbs v.y.natAbs) v.z.natAbs=0:=by omega
 rw[Nat.gcd_eq_zero_iff,Nat.gcd_eq_zero_iff] at h
 exact V3.ext' (by show v.x=0;omega) (by show v.y=0;omega) (by show v.z=0;omega)
theorem Ib4 {a c k:V3} (ha:inV a=true) (hc:inV c=true) (hk:inV k=true) (h:N3 a c k≠⟨0,0,0⟩):(D7 a c k).2=true:=by
 unfold D7
 rw[ha,hc,hk]
 simp only[Bool.and_self,if_true]
 rw[if_neg (fun h0=>h (Ie3 h0):¬ g3 (f0 (sub c a) (sub k a))=0)]
theorem md0 {a c k:V3} {p:Pln} (h:Thr a c k p):N3 a c k≠⟨0,0,0⟩:=fun e=>by
 obtain⟨ok,⟨g,hg,e1,e2,e3⟩,_⟩:=h
 have e':f0 (sub c a) (sub k a)=⟨0,0,0⟩:=e
 rw[e'] at e1 e2 e3
 have z:∀ {x:Int},g*x=0→x=0:=fun h=>(Int.mul_eq_zero.1 h).resolve_left (by omega)
 exact ae5 ok (V3.ext' (z e1) (z e2) (z e3))
theorem ud9 {a c k:V3} {p:Pln} (h:Thr a c k p):dot p.n a=p.b∧dot p.n c=p.b∧dot p.n k=p.b:=by
 obtain⟨ok,⟨g,hg,e1,e2,e3⟩,o⟩:=h
 have z:∀ {x y:Int},g*(x - y)=0→x=y:=fun h=>by have:=(Int.mul_eq_zero.1 h).resolve_left (by omega);omega
 refine⟨o.symm,?_,?_⟩
 ·rw[o]
  apply z
  have:g*(dot p.n c - dot p.n a)=(g*p.n.x)*(c.x - a.x)+(g*p.n.y)*(c.y - a.y)+(g*p.n.z)*(c.z - a.z):=by simp only[dot];grind
  rw[this,e1,e2,e3];simp only[f0,sub];grind
 ·rw[o]
  apply z
  have:g*(dot p.n k - dot p.n a)=(g*p.n.x)*(k.x - a.x)+(g*p.n.y)*(k.y - a.y)+(g*p.n.z)*(k.z - a.z):=by simp only[dot];grind
  rw[this,e1,e2,e3];simp only[f0,sub];grind
theorem Nb1 (p:Pln) (v:V3):dot (oa1 p).n v=(oa1 p).b↔dot p.n v=p.b:=by
 rw[Tc6]
 show -dot p.n v=-p.b↔_
 omega
theorem Id4 {a c k:V3} {p q:Pln} (h:Thr a c k q) (hp:okp p=true) (t1:dot p.n a=p.b) (t2:dot p.n c=p.b) (t3:dot p.n k=p.b):p=q∨p=oa1 q:=by
 obtain⟨s1,s2,s3⟩:=ud9 h
 obtain⟨ok,⟨g,hg,e1,e2,e3⟩,o⟩:=h
 have d1:dot p.n (sub c a)=0:=by simp only[dot,sub] at *;grind
 have d2:dot p.n (sub k a)=0:=by simp only[dot,sub] at *;grind
 have hc:f0 q.n p.n=⟨0,0,0⟩:=by
  have z:∀ {x:Int},g*x=0→x=0:=fun h=>(Int.mul_eq_zero.1 h).resolve_left (by omega)
  generalize sub c a=u at *
  generalize sub k a=w at *
  refine V3.ext' (z ?_) (z ?_) (z ?_)
  ·have:g*(f0 q.n p.n).x=(g*q.n.y)*p.n.z - (g*q.n.z)*p.n.y:=by simp only[f0];grind
   rw[this,e2,e3]
   have:(f0 u w).y*p.n.z - (f0 u w).z*p.n.y=w.x*dot p.n u - u.x*dot p.n w:=by simp only[f0,dot];grind
   rw[this,d1,d2];simp
  ·have:g*(f0 q.n p.n).y=(g*q.n.z)*p.n.x - (g*q.n.x)*p.n.z:=by simp only[f0];grind
   rw[this,e1,e3]
   have:(f0 u w).z*p.n.x - (f0 u w).x*p.n.z=w.y*dot p.n u - u.y*dot p.n w:=by simp only[f0,dot];grind
   rw[this,d1,d2];simp
  ·have:g*(f0 q.n p.n).z=(g*q.n.x)*p.n.y - (g*q.n.y)*p.n.x:=by simp only[f0];grind
   rw[this,e1,e2]
   have:(f0 u w).x*p.n.y - (f0 u w).y*p.n.x=w.z*dot p.n u - u.z*dot p.n w:=by simp only[f0,dot];grind
   rw[this,d1,d2];simp
 obtain⟨pn,pb⟩:=p
 obtain⟨qn,qb⟩:=q
 rcases ve6 (Td1 ok) (Td1 hp) hc with e | e
 ·left
  simp only at e o t1 s1 t2 t3
  subst e
  rw[← t1,s1]
 ·right
  simp only at e o t1 s1 t2 t3
  subst e
  rw[← t1]
  simp only[dot,neg,oa1] at s1 ⊢
  simp only[Pln.mk.injEq,true_and]
  grind
structure Id5 (l:List V3) (p:Pln):Prop extends Fac l p.n p.b where
 ok:okp p=true
theorem Tc8 {l:List V3} {p:Pln} {u w x:V3} (hu:u∈l) (hw:w∈l) (hx:x∈l) (h:Thr u w x p) (hh:∀ v∈l,dot (oa1 p).n v≤(oa1 p).b):Id5 l (oa1 p):=by
 obtain⟨s1,s2,s3⟩:=ud9 h
 exact⟨⟨hh,u,w,x,hu,hw,hx,md0 h,(Nb1 p u).2 s1,(Nb1 p w).2 s2,(Nb1 p x).2 s3⟩,gc1 h.ok⟩
theorem vd0 {l:List V3} {p:Pln} {u w x:V3} (hu:u∈l) (hw:w∈l) (hx:x∈l) (h:Thr u w x p) (hh:∀ v∈l,dot p.n v≤p.b):Id5 l p:=by
 obtain⟨s1,s2,s3⟩:=ud9 h
 exact⟨⟨hh,u,w,x,hu,hw,hx,md0 h,s1,s2,s3⟩,h.ok⟩
theorem ve8 {u w x:V3} (h:N3 u w x≠⟨0,0,0⟩):N3 w u x≠⟨0,0,0⟩∧N3 u x w≠⟨0,0,0⟩∧N3 x w u≠⟨0,0,0⟩∧N3 w x u≠⟨0,0,0⟩∧N3 x u w≠⟨0,0,0⟩:=by
 have e1:N3 w u x=neg (N3 u w x):=V3.ext' (by simp only[N3,f0,X1,neg];grind) (by simp only[N3,f0,X1,neg];grind) (by simp only[N3,f0,X1,neg];grind)
 have e2:N3 u x w=neg (N3 u w x):=V3.ext' (by simp only[N3,f0,X1,neg];grind) (by simp only[N3,f0,X1,neg];grind) (by simp only[N3,f0,X1,neg];grind)
 have e3:N3 x w u=neg (N3 u w x):=V3.ext' (by simp only[N3,f0,X1,neg];grind) (by simp only[N3,f0,X1,neg];grind) (by simp only[N3,f0,X1,neg];grind)
 have e4:N3 w x u=N3 u w x:=V3.ext' (by simp only[N3,f0,X1];grind) (by simp only[N3,f0,X1];grind) (by simp only[N3,f0,X1];grind)
 have e5:N3 x u w=N3 u w x:=V3.ext' (by simp only[N3,f0,X1];grind) (by simp only[N3,f0,X1];grind) (by simp only[N3,f0,X1];grind)
 rw[e1,e2,e3,e4,e5]
 exact⟨ud6 h,ud6 h,ud6 h,h,h⟩
theorem hf4 {u w x:V3} (h:N3 u w x≠⟨0,0,0⟩):u≠w∧u≠x∧w≠x:=by
 refine⟨fun e=>h ?_,fun e=>h ?_,fun e=>h ?_⟩<;>subst e<;>refine V3.ext' ?_ ?_ ?_<;>simp only[N3,f0,X1]<;>grind
theorem Ie4 {l : List V3} {u w x : V3} (hu : u ∈ l) (hw : w ∈ l) (hx : x ∈ l) (h : N3 u w x ≠ ⟨0, 0, 0⟩) :
  ∃ a,a < l.length∧∃ c,c < a∧∃ k,k < c∧N3 (gL tV l a) (gL tV l c) (gL tV l k)≠⟨0,0,0⟩∧∀ f:V3→Prop,f u→f w→f x→f (gL tV l a)∧f (gL tV l c)∧f (gL tV l k):=by
 obtain⟨i,hi,rfl⟩:=List.mem_iff_getElem.1 hu
 obtain⟨j,hj,rfl⟩:=List.mem_iff_getElem.1 hw
 obtain⟨k,hk,rfl⟩:=List.mem_iff_getElem.1 hx
 obtain⟨n1,n2,n3⟩:=hf4 h
 obtain⟨s1,s2,s3,s4,s5⟩:=ve8 h
 have d1:i≠j:=fun e=>n1 (by subst e;rfl)
 have d2:i≠k:=fun e=>n2 (by subst e;rfl)
 have d3:j≠k:=fun e=>n3 (by subst e;rfl)
 rw[← kb7 tV hi,← kb7 tV hj,← kb7 tV hk] at *
 rcases Nat.lt_or_gt_of_ne d1 with h1 | h1<;>rcases Nat.lt_or_gt_of_ne d2 with h2 | h2<;>rcases Nat.lt_or_gt_of_ne d3 with h3 | h3
 ·exact⟨k,hk,j,h3,i,h1,s3,fun f a b c=>⟨c,b,a⟩⟩
 ·exact⟨j,hj,k,h3,i,h2,s4,fun f a b c=>⟨b,c,a⟩⟩
 ·omega
 ·exact⟨j,hj,i,h1,k,h2,s1,fun f a b c=>⟨b,a,c⟩⟩
 ·exact⟨k,hk,i,h2,j,h1,s5,fun f a b c=>⟨c,a,b⟩⟩
 ·omega
 ·exact⟨i,hi,k,h2,j,h3,s2,fun f a b c=>⟨a,c,b⟩⟩
 ·exact⟨i,hi,j,h1,k,h3,h,fun f a b c=>⟨a,b,c⟩⟩
theorem ae7 {l:List V3} (hl:l.all inV=true) (p:Pln):p∈F0 l↔Id5 l p:=by
 have hin:=List.all_eq_true.1 hl
 constructor
 ·intro hp
  obtain⟨a,ha,c,hc,k,hk,h1,h2⟩:=(Td2 l p).1 hp
  have ma:=gLm ha
  have mc:=gLm (show c < l.length by omega)
  have mk:=gLm (show k < l.length by omega)
  have ht:=(Ea8 h1).2
  rcases h2 with⟨rfl,h3⟩ | ⟨rfl,h3⟩
  ·exact vd0 ma mc mk ht ((sb5 ht.ok hl).1 h3)
  ·exact Tc8 ma mc mk ht ((sb5 (gc1 ht.ok) hl).1 h3)
 ·intro h
  obtain⟨u,w,x,hu,hw,hx,h3,t1,t2,t3⟩:=h.on
  obtain⟨a,ha,c,hc,k,hk,hn,hall⟩:=Ie4 hu hw hx h3
  obtain⟨i1,i2,i3⟩:=hall (fun v=>inV v=true) (hin u hu) (hin w hw) (hin x hx)
  obtain⟨e1,e2,e3⟩:=hall (fun v=>dot p.n v=p.b) t1 t2 t3
  have h2:=Ib4 i1 i2 i3 hn
  refine (Td2 l p).2 ⟨a,ha,c,hc,k,hk,h2,?_⟩
  have hh:=(sb5 h.ok hl).2 h.hd
  rcases Id4 (Ea8 h2).2 h.ok e1 e2 e3 with e | e
  ·exact .inl ⟨e,hh⟩
  ·exact .inr ⟨e,hh⟩
theorem Ie5 {n:V3} (h:n≠⟨0,0,0⟩):0 < dot n n:=by
 have sq:∀ a:Int,0≤a*a:=fun a=>by
  by_cases h:0≤a
  ·exact Int.mul_nonneg h h
  ·have:=Int.mul_nonneg (show 0≤-a by omega) (show 0≤-a by omega)
   rw[Int.neg_mul_neg] at this
   exact this
 have z:∀ {a:Int},a*a=0→a=0:=fun h=>(Int.mul_eq_zero.1 h).elim id id
 have s1:=sq n.x;have s2:=sq n.y;have s3:=sq n.z
 by_cases h0:0 < dot n n
 ·exact h0
 ·exfalso
  simp only[dot] at h0
  exact h (V3.ext' (z (by omega)) (z (by omega)) (z (by omega)))
theorem Ie6 {l:List V3} (hl:l.all inV=true) {c:List Pln} (hc:∀ p,Id5 l p→p∈c):hf3 l c:=fun n b hn hf=>by
 have hin:=List.all_eq_true.1 hl
 obtain⟨u,w,x,hu,hw,hx,h3,t1,t2,t3⟩:=hf.on
 have h2:=Ib4 (hin u hu) (hin w hw) (hin x hx) h3
 have ht:=(Ea8 h2).2
 generalize (D7 u w x).1=q at ht
 obtain⟨s1,s2,s3⟩:=ud9 ht
 have hnn:=Ie5 hn
 have d1:dot n (X1 w u)=0:=by simp only[dot,X1] at *;grind
 have d2:dot n (X1 x u)=0:=by simp only[dot,X1] at *;grind
 -- the normals are parallel
 have par:dot n n*q.n.x=dot q.n n*n.x∧dot n n*q.n.y=dot q.n n*n.y∧dot n n*q.n.z=dot q.n n*n.z:=by
  obtain⟨ok,⟨g,hg,e1,e2,e3⟩,o⟩:=ht
  have z:∀ {x y:Int},g*(x - y)=0→x=y:=fun h=>by have:=(Int.mul_eq_zero.1 h).resolve_left (by omega);omega
  have eg:g*dot q.n n=(f0 (X1 w u) (X1 x u)).x*n.x+(f0 (X1 w u) (X1 x u)).y*n.y+(f0 (X1 w u) (X1 x u)).z*n.z:=by
   have:g*dot q.n n=(g*q.n.x)*n.x+(g*q.n.y)*n.y+(g*q.n.z)*n.z:=by simp only[dot];grind
   rw[this,e1,e2,e3];rfl
  have e1:g*q.n.x=(f0 (X1 w u) (X1 x u)).x:=e1
  have e2:g*q.n.y=(f0 (X1 w u) (X1 x u)).y:=e2
  have e3:g*q.n.z=(f0 (X1 w u) (X1 x u)).z:=e3
  generalize X1 w u=p at *
  generalize X1 x u=r at *
  refine⟨z ?_,z ?_,z ?_⟩
  ·have:g*(dot n n*q.n.x - dot q.n n*n.x)=dot n n*(g*q.n.x) - (g*dot q.n n)*n.x:=by grind
   rw[this,e1,eg]
   have:dot n n*(f0 p r).x - ((f0 p r).x*n.x+(f0 p r).y*n.y+(f0 p r).z*n.z)*n.x=(n.y*r.z - n.z*r.y)*dot n p - (n.y*p.z - n.z*p.y)*dot n r:=by simp only[dot,f0];grind
   rw[this,d1,d2];simp
  ·have:g*(dot n n*q.n.y - dot q.n n*n.y)=dot n n*(g*q.n.y) - (g*dot q.n n)*n.y:=by grind
   rw[this,e2,eg]
   have:dot n n*(f0 p r).y - ((f0 p r).x*n.x+(f0 p r).y*n.y+(f0 p r).z*n.z)*n.y=(n.z*r.x - n.x*r.z)*dot n p - (n.z*p.x - n.x*p.z)*dot n r:=by simp only[dot,f0];grind
   rw[this,d1,d2];simp
  ·have:g*(dot n n*q.n.z - dot q.n n*n.z)=dot n n*(g*q.n.z) - (g*dot q.n n)*n.z:=by grind
   rw[this,e3,eg]
   have:dot n n*(f0 p r).z - ((f0 p r).x*n.x+(f0 p r).y*n.y+(f0 p r).z*n.z)*n.z=(n.x*r.y - n.y*r.x)*dot n p - (n.x*p.y - n.y*p.x)*dot n r:=by simp only[dot,f0];grind
   rw[this,d1,d2];simp
 have fin:∀ r:Pln,Thr u w x q→(r=q∨r=oa1 q)→0 < dot r.n n→(dot n n*r.n.x=dot r.n n*n.x∧dot n n*r.n.y=dot r.n n*n.y∧dot n n*r.n.z=dot r.n n*n.z)→∃ s t:Int,0 < s∧0 < t∧∃ q∈c,t*q.n.x=s*n.x∧t*q.n.y=s*n.y∧t*q.n.z=s*n.z∧t*q.b=s*b:=fun r ht hr hp ⟨p1,p2,p3⟩=>by
  have hru:dot r.n u=r.b:=by
   rcases hr with rfl | rfl
   ·exact s1
   ·exact (Nb1 q u).2 s1
  have ed:∀ v,dot n n*dot r.n v=dot r.n n*dot n v:=fun v=>by
   have:dot n n*dot r.n v=(dot n n*r.n.x)*v.x+(dot n n*r.n.y)*v.y+(dot n n*r.n.z)*v.z:=by
    generalize dot n n=t
    simp only[dot];grind
   rw[this,p1,p2,p3]
   generalize dot r.n n=s
   simp only[dot];grind
  have eb:dot n n*r.b=dot r.n n*b:=by rw[← hru,ed,t1]
  have hd:∀ v∈l,dot r.n v≤r.b:=fun v hv=>by
   have h1:=Int.mul_le_mul_of_nonneg_left (hf.hd v hv) (Int.le_of_lt hp)
   rw[← ed,← eb] at h1
   exact Int.le_of_mul_le_mul_left h1 hnn
  have hF:Id5 l r:=by
   rcases hr with rfl | rfl
   ·exact vd0 hu hw hx ht hd
   ·exact Tc8 hu hw hx ht hd
  exact⟨dot r.n n,dot n n,hp,hnn,r,hc r hF,p1,p2,p3,eb⟩
 by_cases h0:0 < dot q.n n
 ·exact fin q ht (.inl rfl) h0 par
 ·refine fin (oa1 q) ht (.inr rfl) ?_ ?_
  ·rw[Tc6]
   have:dot q.n n≠0:=fun e=>by
    obtain⟨p1,p2,p3⟩:=par
    rw[e] at p1 p2 p3
    simp only[Int.zero_mul] at p1 p2 p3
    have z:∀ {x:Int},dot n n*x=0→x=0:=fun h=>(Int.mul_eq_zero.1 h).resolve_left (by omega)
    exact ae5 ht.ok (V3.ext' (z p1) (z p2) (z p3))
   omega
  ·rw[Tc6]
   obtain⟨p1,p2,p3⟩:=par
   show dot n n*-q.n.x=_∧dot n n*-q.n.y=_∧dot n n*-q.n.z=_
   rw[Int.mul_neg,Int.mul_neg,Int.mul_neg,p1,p2,p3,Int.neg_mul,Int.neg_mul,Int.neg_mul]
   exact⟨rfl,rfl,rfl⟩
end Go.Ev.Ce
namespace Go.Ev.Ce
open Go Go.Ev Go.Ev.L Go.Proofs Go.Sort
def eqV (x y:V3):Bool:=x.x==y.x&&(x.y==y.y&&(x.z==y.z&&true))
theorem gc5 (x y:V3):eqV x y=true↔x=y:=by
 unfold eqV
 simp only[Bool.and_true,Bool.and_eq_true,beq_iff_eq]
 refine⟨fun⟨h1,h2,h3⟩=>V3.ext' h1 h2 h3,fun h=>by subst h;exact⟨rfl,rfl,rfl⟩⟩
theorem Wb5 {l:List V3} {j:Nat} (h:j < l.length):ldR tV (bL tV l) (0+j)=true:=by rw[Nat.zero_add];exact Qd1 tV h
theorem Ib5 {l:List V3} {j:Nat} (h:j < l.length):rdR tV (bL tV l) (0+j)=gL tV l j:=by rw[Nat.zero_add];exact Qd0 tV h
theorem Id6 (l:List V3) (n:Nat):I1 (bL tV l) n=bL tV (l.take n):=by unfold bL;rw[I9,o1,o1,List.map_take]
theorem Tc9 (l:List V3) (n:Nat):d9 (bL tV l) n=bL tV (l.drop n):=by unfold bL;rw[F9,o1,o1,List.map_drop]
theorem Id7 (n:Nat):List.replicate n [i 0,i 0,i 0]=bL tV (List.replicate n ⟨0,0,0⟩):=by unfold bL;rw[o1,List.map_replicate];rfl
def dvF:V3→List V3→List V3
 | _,[]=>[]
 | a,x::l=>if eqV x a then dvF x l else x::dvF x l
def ddV:List V3→List V3
 | []=>[]
 | x::l=>x::dvF x l
structure ve9 (l:List V3) (n:Nat) (cur:List V3) (m j:Nat) (R:List V3):Prop where
 len:cur.length=l.length
 t:cur.take m++dvF (gL tV l (j - 1)) ((l.take n).drop j)=R
 d:cur.drop (j - 1)=l.drop (j - 1)
 le:m+1≤j
theorem ed3 (l : List V3) (n o : Nat) (hn : n ≤ l.length) (hl : l.length ≤ 1000000000) (ho : o < n) (m : Nat) (cur : List V3) (R : List V3) (hd : ve9 l n cur m (o + 1) R) :
  ∃ t s,lp (s6 ⟨n,0+o,n - o⟩) ⟨(m:Int),((1:Nat):Int),bL tV cur⟩=(t,s)∧(t=1∧∃ m' cur' k,s=⟨((m':Nat):Int),k,bL tV cur'⟩∧cur'.length=l.length∧cur'.take m'=R∧m'≤n):=by
 refine F5 (step:=s6 ⟨n,0+o,n - o⟩) (mk:=fun j (x:Nat×List V3)=>(⟨(x.1:Int),(j:Int),bL tV x.2⟩:r5)) (n - o) (fun j x=>ve9 l n x.2 x.1 (o+j) R∧1≤j∧x.1≤n) (fun t s=>t=1∧∃ m' cur' k,s=⟨((m':Nat):Int),k,bL tV cur'⟩∧cur'.length=l.length∧cur'.take m'=R∧m'≤n) (by omega) (fun j x hj hx=>?_) (fun j x hj hx=>?_) 1 (m,cur) ⟨hd,Nat.le_refl _,by have:=hd.le;show m≤n;omega⟩
 ·obtain⟨m,cur⟩:=x
  obtain⟨⟨h1,h2,h3,h4⟩,hj1,hmn⟩:=hx
  simp only at h1 h2 h3 h4 hmn
  have hoj:o+j < n:=by omega
  have hjc:o+j < cur.length:=by omega
  have hjc':o+(j - 1) < cur.length:=by omega
  have hmc:m < cur.length:=by omega
  have hg':gL tV cur (o+(j - 1))=gL tV l (o+j - 1):=by rw[show o+(j - 1)=o+j - 1 by omega];exact qc2 tV h3
  have hd1:cur.drop (o+j)=l.drop (o+j):=by have:=fc5 h3 1;rw[show o+j - 1+1=o+j by omega] at this;exact this
  have hg:gL tV cur (o+j)=gL tV l (o+j):=qc2 tV hd1
  have hWm:W ((m:Int)+1)=((m+1:Nat):Int):=by rw[ka8 (by omega) (by omega)];omega
  have hWj:W ((j:Int) - 1)=((j - 1:Nat):Int):=by rw[ka8 (by omega) (by omega)];omega
  have hb:Nat.blt m cur.length=true:=by rw[Nat.blt_eq];exact hmc
  have hrow:e8 (bL tV cur) m=tV.row (gL tV cur m):=da1 tV hmc
  have sp:∀ (v:V3) (x1 x2 x3:Int),S4 (tV.row v) 0 [i x1,i x2,i x3]=tV.row ⟨x1,x2,x3⟩:=fun _ _ _ _=>rfl
  have rl:∀ v:V3,Nat.ble 3 (len (tV.row v))=true:=fun _=>rfl
  simp only[s6,L6,Int.toNat_natCast,Nat.zero_add,hWj,Qd1 tV hjc,Qd1 tV hjc',Qd0 tV hjc,Qd0 tV hjc',o6 hj (show n - o≤4611686018427387904 by omega),hWm,hg,hg',hrow,ga2,hb,sp,rl,Db8,f7 (show m < n by omega)]
  rw[btD (i8 hj)]
  simp only[f7 hj,f7 (show j - 1 < n - o by omega),q8,Bool.and_self]
  rw[show ((gL tV l (o+j)).x==(gL tV l (o+j - 1)).x&&((gL tV l (o+j)).y==(gL tV l (o+j - 1)).y&&((gL tV l (o+j)).z==(gL tV l (o+j - 1)).z&&true)))=eqV (gL tV l (o+j)) (gL tV l (o+j - 1)) from rfl]
  have hcons:(l.take n).drop (o+j)=gL tV l (o+j)::(l.take n).drop (o+(j+1)):=by
   rw[List.drop_eq_getElem_cons (by rw[List.length_take];omega),List.getElem_take,kb7 tV (by omega)]
   rfl
  rw[hcons] at h2
  have hlast:o+(j+1) - 1=o+j:=by omega
  unfold dvF at h2
  cases he:eqV (gL tV l (o+j)) (gL tV l (o+j - 1)) with
  | true =>
   rw[he] at h2
   simp only[if_true] at h2
   refine .nx ⟨(m,cur),rfl,⟨⟨h1,?_,?_,by show m+1≤o+(j+1);omega⟩,by omega,hmn⟩⟩
   ·rw[hlast];exact h2
   ·rw[hlast];exact hd1
  | false =>
   rw[he] at h2
   simp only[Bool.false_eq_true,if_false] at h2
   refine .nx ⟨(m+1,cur.set m (gL tV l (o+j))),rfl,⟨⟨by rw[List.length_set];exact h1,?_,?_,by show m+1+1≤o+(j+1);omega⟩,by omega,by show m+1≤n;omega⟩⟩
   ·rw[hlast]
    show (cur.set m (gL tV l (o+j))).take (m+1)++_=R
    rw[List.take_succ_eq_append_getElem (by rw[List.length_set];exact hmc),List.getElem_set_self,List.take_set_of_le (Nat.le_refl _),List.append_assoc]
    exact h2
   ·rw[hlast]
    show (cur.set m (gL tV l (o+j))).drop (o+j)=_
    rw[List.drop_set_of_lt (by omega),hd1]
 ·obtain⟨m,cur⟩:=x
  obtain⟨⟨h1,h2,h3,h4⟩,hj1,hmn⟩:=hx
  simp only at h1 h2 h3 h4 hmn
  refine⟨1,?_,rfl,m,cur,_,rfl,h1,?_,hmn⟩
  ·simp only[s6,L6]
   rw[bfD (by omega)]
  ·rw[List.drop_eq_nil_of_le (by rw[List.length_take];omega)] at h2
   unfold dvF at h2
   rw[List.append_nil] at h2
   exact h2
theorem Id8 (l : List V3) (n : Nat) (hn : n ≤ l.length) (hl : l.length ≤ 1000000000) :
  ∃ m r,M9 ⟨n,bL tV l⟩=⟨1,m,bL tV r⟩∧m≤r.length∧r.take m=ddV (l.take n)∧r.length=l.length:=by
 unfold M9 M8
 simp only
 by_cases h2:(n:Int) < 2
 ·rw[btD h2]
  refine⟨n,l,rfl,hn,?_,rfl⟩
  have:n=0∨n=1:=by omega
  rcases this with rfl | rfl
  ·rfl
  ·cases l with
   | nil=>rfl
   | cons x l=>rfl
 ·rw[bfD h2]
  have h1n:1≤n:=by omega
  have hI : ∀ j, j < n → 1 ≤ j → l.take j ++ dvF (gL tV l (j - 1)) ((l.take n).drop j) = ddV (l.take n) →
    (eqV (gL tV l j) (gL tV l (j - 1))=true→ve9 l n l j (j+1) (ddV (l.take n)))∧(eqV (gL tV l j) (gL tV l (j - 1))=false→l.take (j+1)++dvF (gL tV l (j+1 - 1)) ((l.take n).drop (j+1))=ddV (l.take n)):=by
   intro j hj hj1 hR
   have hcons:(l.take n).drop j=gL tV l j::(l.take n).drop (j+1):=by
    rw[List.drop_eq_getElem_cons (by rw[List.length_take];omega),List.getElem_take,kb7 tV (by omega)]
   rw[hcons] at hR
   unfold dvF at hR
   constructor
   ·intro he
    rw[he] at hR
    simp only[if_true] at hR
    exact⟨rfl,hR,rfl,Nat.le_refl _⟩
   ·intro he
    rw[he] at hR
    simp only[Bool.false_eq_true,if_false] at hR
    rw[za0 tV (show j < l.length by omega),List.append_assoc]
    exact hR
  have inner:∀ k,k < n→1≤k→ve9 l n l k (k+1) (ddV (l.take n))→∃ m' cur' k',lp (s6 ⟨n,0+k,n - k⟩) ⟨(k:Int),1,bL tV l⟩=(1,⟨((m':Nat):Int),k',bL tV cur'⟩)∧cur'.length=l.length∧cur'.take m'=ddV (l.take n)∧m'≤n:=by
   intro k hk hk1 hc
   obtain⟨t,s,e1,rfl,m',cur',k',rfl,e2,e3,e4⟩:=ed3 l n k hn hl hk k l _ hc
   exact⟨m',cur',k',e1,e2,e3,e4⟩
  have key:=F5 (step:=M7 ⟨n,bL tV l⟩) (mk:=fun j (_:Unit)=>(⟨(j:Int)⟩:v8)) n (fun j _=>1≤j∧j≤n∧l.take j++dvF (gL tV l (j - 1)) ((l.take n).drop j)=ddV (l.take n))
   (fun t s=>(t=1∧∃ k:Nat,s=⟨(k:Int)⟩∧k < n∧1≤k∧ve9 l n l k (k+1) (ddV (l.take n)))∨(t=2∧l.take n=ddV (l.take n))) (by omega) (fun j x hj hx=>?_) (fun j x hj hx=>?_) 1 () ⟨Nat.le_refl _,h1n,by
    cases l with
    | nil=>simp only[List.length_nil] at hn;omega
    | cons x l =>
     cases n with
     | zero=>omega
     | succ n=>rfl⟩
  ·obtain⟨t,s,e1,e2⟩:=key
   rw[show (⟨1⟩:v8)=⟨((1:Nat):Int)⟩ from rfl,e1]
   rcases e2 with⟨rfl,k,rfl,hk,hk1,hc⟩ | ⟨rfl,he⟩
   ·obtain⟨m',cur',k',e2,e3,e4,e5⟩:=inner k hk hk1 hc
    simp only[Int.toNat_natCast,e2]
    simp only[Nat.zero_add,Nat.sub_zero]
    refine⟨m',cur'.take m'++(List.replicate (n - m') ⟨0,0,0⟩++cur'.drop (m'+(n - m'))),?_,?_,?_,?_⟩
    ·rw[Id6,Id7,Tc9,Fa5,Fa5]
     rfl
    ·rw[List.length_append,List.length_take,e3];omega
    ·rw[List.take_append_of_le_length (by rw[List.length_take,e3];omega),List.take_take,Nat.min_self,e4]
    ·rw[List.length_append,List.length_append,List.length_take,List.length_replicate,List.length_drop,e3];omega
   ·exact⟨n,l,rfl,hn,he,rfl⟩
  ·obtain⟨hj1,hjn,hR⟩:=hx
   obtain⟨i1,i2⟩:=hI j hj hj1 hR
   have hWj:W ((j:Int) - 1)=((j - 1:Nat):Int):=by rw[ka8 (by omega) (by omega)];omega
   have hjl:j < l.length:=by omega
   have hjl':j - 1 < l.length:=by omega
   simp only[M7,L7,Int.toNat_natCast,hWj,Wb5 hjl,Wb5 hjl',Ib5 hjl,Ib5 hjl',o6 hj (show n≤4611686018427387904 by omega)]
   rw[btD (i8 hj),bt (f7 hj),bt (f7 (show j - 1 < n by omega)),bt (f7 (show j < n+1 by omega))]
   simp only[q8]
   rw[show ((gL tV l j).x==(gL tV l (j - 1)).x&&((gL tV l j).y==(gL tV l (j - 1)).y&&((gL tV l j).z==(gL tV l (j - 1)).z&&true)))=eqV (gL tV l j) (gL tV l (j - 1)) from rfl]
   cases he:eqV (gL tV l j) (gL tV l (j - 1)) with
   | false=>exact .nx ⟨(),rfl,by omega,by omega,i2 he⟩
   | true =>
    obtain⟨m',cur',k',e2,e3,e4,e5⟩:=inner j hj hj1 (i1 he)
    rw[e2]
    simp only[f7 (show m' < n+1 by omega)]
    exact .ex (.inl ⟨rfl,j,rfl,hj,hj1,i1 he⟩)
  ·obtain⟨hj1,hjn,hR⟩:=hx
   refine⟨2,?_,.inr ⟨rfl,?_⟩⟩
   ·simp only[M7,L7]
    rw[bfD (by omega)]
   ·have:j=n:=by omega
    subst this
    rw[List.drop_eq_nil_of_le (by rw[List.length_take];omega)] at hR
    unfold dvF at hR
    rw[List.append_nil] at hR
    exact hR
def qc9 (l:List V3):Prop:=l.Pairwise LtV
theorem Nb2 {x y z:V3} (h1:LtV x y) (h2:LtV y z):LtV x z:=by unfold LtV at *;omega
theorem gc6 (x:V3):¬ LtV x x:=by unfold LtV;omega
theorem ae8 (x y:V3):LtV x y∨x=y∨LtV y x:=by
 by_cases h1:LtV x y
 ·exact .inl h1
 ·by_cases h2:LtV y x
  ·exact .inr (.inr h2)
  ·refine .inr (.inl ?_)
   unfold LtV at h1 h2
   exact V3.ext' (by omega) (by omega) (by omega)
theorem Td3 (l:List V3):List.Perm (yb8 l) l:=List.mergeSort_perm l _
theorem ie6 (x y z:V3) (h1:(!ltOf Ga2 y x)=true) (h2:(!ltOf Ga2 z y)=true):(!ltOf Ga2 z x)=true:=by
 rw[Ha3] at *
 simp only[Bool.not_eq_true',decide_eq_false_iff_not] at *
 unfold LtV at *
 omega
theorem ie7 (x y:V3):((!ltOf Ga2 y x)||(!ltOf Ga2 x y))=true:=by
 rw[Ha3,Ha3]
 by_cases h:LtV y x
 ·have h2:¬ LtV x y:=fun h2=>gc6 x (Nb2 h2 h)
  simp[h2]
 ·simp[h]
theorem vd1 (l:List V3):(yb8 l).Pairwise fun x y=>(!ltOf Ga2 y x)=true:=List.pairwise_mergeSort ie6 ie7 l
theorem ae9 (p:V3):∀ (a:V3) (l:List V3),p∈a::dvF a l↔p∈a::l
 | a,[]=>by simp[dvF]
 | a,x::l=>by
  have ih:=ae9 p x l
  unfold dvF
  split
  ·rename_i h
   rw[gc5] at h
   subst h
   rw[ih]
   simp
  ·simp only[List.mem_cons] at ih ⊢
   rw[ih]
theorem Xe5 (p:V3):∀ l:List V3,p∈ddV l↔p∈l
 | []=>Iff.rfl
 | x::l=>ae9 p x l
theorem be0:∀ (a:V3) (l:List V3),(a::l).Pairwise (fun x y=>(!ltOf Ga2 y x)=true)→qc9 (a::dvF a l)
 | a,[],_=>List.pairwise_singleton _ _
 | a,x::l,h=>by
  obtain⟨h1,h2⟩:=List.pairwise_cons.1 h
  have ih:=be0 x l h2
  have hle:=h1 x List.mem_cons_self
  rw[Ha3] at hle
  have hle:¬ LtV x a:=by simpa using hle
  unfold dvF
  split
  ·rename_i he
   rw[gc5] at he
   subst he
   exact ih
  ·rename_i hne
   have hlt:LtV a x:=by
    rcases ae8 a x with h | h | h
    ·exact h
    ·exact absurd ((gc5 _ _).2 h.symm) hne
    ·exact absurd h hle
   refine List.pairwise_cons.2 ⟨fun p hp=>?_,ih⟩
   rcases List.mem_cons.1 hp with e | hp'
   ·subst e;exact hlt
   ·exact Nb2 hlt ((List.pairwise_cons.1 ih).1 p hp')
theorem Td4 (l:List V3):qc9 (ddV (yb8 l)):=by
 have h:=vd1 l
 cases hs:yb8 l with
 | nil=>exact .nil
 | cons a l'=>rw[hs] at h;exact be0 a l' h
noncomputable def dis (l:List V3):List V3:=ddV (yb8 l)
theorem Nb3 (l:List V3) (v:V3):v∈dis l↔v∈l:=by unfold dis;rw[Xe5,(Td3 l).mem_iff]
theorem ie8 (l:List V3):(dis l).Nodup:=List.Pairwise.imp (fun {x y} (h:LtV x y) (e:x=y)=>gc6 y (e ▸ h)) (Td4 l)
theorem vd2 (l:List V3):(dis l).length≤l.length:=by
 have:=List.Nodup.length_le_of_subset (ie8 l) (fun v hv=>(Nb3 l v).1 hv)
 exact this
theorem md1 (l:List V3) (n:Nat) (hn:n≤l.length):slR tV (bL tV l) 0 n=l.take n:=jc7 tV (by rw[List.length_take];omega) fun k hk=>by
 rw[Nat.zero_add,da1 tV (by omega)]
 congr 1
 simp[gL,List.getD_eq_getElem?_getD,List.getElem?_take,hk]
theorem rc0 (l:List V3) (n:Nat) (hn:n≤l.length):okS tV (bL tV l) 0 n=true:=Va2 tV (f:=fun k=>gL tV l k) fun k hk=>by rw[Nat.zero_add,da1 tV (by omega)]
theorem md2 (a:V3) (l:List V3) (hl:l.length≤1000000):fa0 (a,l)=⟨1,(a::l).length,bL tV (a::l)⟩:=by
 have ec:r6 (fun k=>tV.row (gL tV (a::l) k)) (List.range (l.length+1))=bL tV (a::l):=Db7 tV (a::l)
 unfold fa0 S8
 simp only[ec,ga2]
 have z:Nat.beq (a::l).length 0=false:=rfl
 have r:Nat.ble ((0+(a::l).length)*24) room=true:=by rw[Nat.ble_eq];unfold room;simp only[List.length_cons];omega
 rw[z,r,Nat.zero_add]
 rfl
theorem gc7 (a:V3) (l:List V3) (hl:l.length≤1000000):∃ m r,M9 ⟨(a::l).length,app (bL tV (yb8 (slR tV (bL tV (a::l)) 0 (a::l).length))) (d9 (bL tV (a::l)) (a::l).length)⟩=⟨1,m,bL tV r⟩∧m≤r.length∧r.take m=dis (a::l)∧r.length=l.length+1:=by
 have hs:(yb8 (a::l)).length=(a::l).length:=kd9 _
 rw[cb7,Tc9,Fa5]
 obtain⟨m,r,k1,k2,k3,k4⟩:=Id8 (yb8 (a::l)++(a::l).drop (a::l).length) (a::l).length (by rw[List.length_append,hs];omega) (by rw[List.length_append,hs,List.length_drop];simp only[List.length_cons];omega)
 refine⟨m,r,k1,k2,?_,by rw[k4,List.length_append,hs,List.length_drop];simp only[List.length_cons];omega⟩
 rw[k3,List.take_append_of_le_length (by rw[hs];omega),List.take_of_length_le (by rw[hs];omega)]
 rfl
theorem Id9 (l:List V3) (hl:l.length≤2000000) (r:List V3):(Bool.and (Nat.ble l.length room) (Bool.and (Nat.ble l.length (len (bL tV (l++r)))) (okS tV (bL tV (l++r)) 0 l.length)))=true:=by
 rw[rc0 _ _ (by rw[List.length_append];omega),ga2,Bool.and_eq_true,Bool.and_eq_true,Nat.ble_eq,Nat.ble_eq]
 refine⟨by unfold room;omega,by rw[List.length_append];omega,rfl⟩
theorem vc8 (a:V3) (l:List V3) (hl:l.length≤1000000):Rd (one (r1L tV)) (qa4 (a,l)) (fun r=>r=dis (a::l)):=by
 obtain⟨m,r,k1,k2,k3,_⟩:=gc7 a l hl
 have hok:okL tV (l.length+1) (fun k=>tV.row (gL tV (a::l) k))=true:=Va2 tV (f:=fun k=>gL tV (a::l) k) fun _ _=>rfl
 have hr:=Id9 (a::l) (by simp only[List.length_cons];omega) []
 rw[List.append_nil] at hr
 unfold qa4
 simp only[Xd5,Xd6,md2 a l hl,hok,k1,q8,Nat.beq_refl,hr]
 refine⟨_,r.take m,rfl,?_,k3⟩
 show Bool.rec (motive:=fun _=>Option (List V3)) none (some (slR tV (bL tV r) 0 m)) (Bool.and true (okS tV (bL tV r) 0 m))=_
 rw[md1 r m k2,rc0 r m k2]
 rfl
theorem Td5 (a:V3) (l:List V3) (hl:l.length≤1000000):Wa2 (a,l)=dis (a::l):=(vc8 a l hl).p
theorem Td6 (a:V3) (l:List V3) (hl:l.length≤1000000):Wa3 (a,l)=true:=(vc8 a l hl).g
end Go.Ev.Ce
namespace Go.Ev.Ce
open Go Go.Ev Go.Ev.L Go.Proofs
theorem Jd0 (p:Pln) (v:V3):Ja7 p v=some (i (U9 p v),[]):=by
 unfold Ja7 U9
 simp only[Zd4,Zd5,(qc1 v).1,(qc1 v).2,Zd0,Zd1,q8]
 cases hp:okp p with
 | false=>rfl
 | true =>
  cases hv:inV v with
  | false=>rfl
  | true =>
   have hb:=Ib0 hp
   have hd:=ue7 hb hv
   have e:r7 p.n v=dot p.n v:=by
    unfold r7
    simp only[Gb5,nc0]
    exact Hb7 (hd.mono (by omega))
   rw[e]
   simp only[Bool.not_true,Db6,Bool.and_self,if_true,Ha6]
   by_cases h1:dot p.n v < p.b
   ·rw[if_pos h1,if_pos (by omega)]
   ·rw[if_neg h1]
    by_cases h2:dot p.n v > p.b
    ·rw[if_pos h2,if_neg (by omega),if_pos (by omega)]
    ·rw[if_neg h2,if_neg (by omega),if_neg (by omega)]
theorem Hc5 (p:Pln) (v:V3):oa6 p v=U9 p v:=by unfold oa6;rw[Jd0];rfl
theorem Hc6 (p:Pln) (v:V3):oa7 p v=true:=by unfold oa7;rw[Jd0];rfl
theorem Ie7 {v:V3} (h1:Sm 1000000000000000000 v.x) (h2:Sm 1000000000000000000 v.y) (h3:Sm 1000000000000000000 v.z):Z5 [v.x,v.y,v.z]=g3 v∧Z6 [v.x,v.y,v.z]=true:=by
 have hd:=Sc7 [v.x,v.y,v.z] (by simp) (by
  intro x hx
  simp only[List.mem_cons,List.not_mem_nil,or_false] at hx
  rcases hx with rfl | rfl | rfl<;>assumption)
 have hg:([v.x,v.y,v.z].foldl (fun g x=>Nat.gcd g x.natAbs) 0:Nat)=Nat.gcd (Nat.gcd v.x.natAbs v.y.natAbs) v.z.natAbs:=by
  simp only[List.foldl_cons,List.foldl_nil,Nat.gcd_zero_left]
 exact⟨by unfold Z5;rw[hd,hg];rfl,by unfold Z6;rw[hd];rfl⟩
theorem we0 {v : V3} (h1 : Sm 1000000000000000000 v.x) (h2 : Sm 1000000000000000000 v.y) (h3 : Sm 1000000000000000000 v.z) :
  Ja6 v=if g3 v=0 then some (.tup [.agg (tV.row ⟨0,0,0⟩),i 0],[]) else some (.tup [.agg (tV.row ⟨W (Int.tdiv v.x (g3 v)),W (Int.tdiv v.y (g3 v)),W (Int.tdiv v.z (g3 v))⟩),i (g3 v)],[]):=by
 obtain⟨e1,e2⟩:=Ie7 h1 h2 h3
 unfold Ja6
 simp only[e1,e2,q8]
 by_cases h:g3 v=0
 ·rw[if_pos h,bt (by simpa using h)];rfl
 ·rw[if_neg h,bf (by simpa using h),bf (by simpa using h),bf (by simpa using h),bf (by simpa using h)];rfl
theorem vc9 (a c d:V3):qa0 a c d=some (.tup [.agg (tP.row (D7 a c d).1),b (D7 a c d).2],[]):=by
 unfold qa0 D7
 simp only[(qc1 _).1,(qc1 _).2]
 cases ha:inV a with
 | false=>rfl
 | true =>
  cases hc:inV c with
  | false=>rfl
  | true =>
   cases hd:inV d with
   | false=>rfl
   | true =>
    obtain⟨e,k1,k2,k3⟩:=ob8 ha hc hd
    have e':ca5 (va6 c a) (va6 d a)=f0 (sub c a) (sub d a):=e
    rw[e']
    generalize f0 (sub c a) (sub d a)=n at *
    have m1:=k1.mono (m:=1000000000000000000) (by omega)
    have m2:=k2.mono (m:=1000000000000000000) (by omega)
    have m3:=k3.mono (m:=1000000000000000000) (by omega)
    have hpr:=we0 m1 m2 m3
    have gp:Za0 n=true:=by unfold Za0;rw[hpr];split<;>rfl
    by_cases h0:g3 n=0
    ·have pp:ya3 n=(⟨0,0,0⟩,0):=by unfold ya3;rw[hpr,if_pos h0];rfl
     have hz:r7 ⟨0,0,0⟩ a=0:=by unfold r7;simp only[Int.zero_mul];rfl
     simp only[gp,pp,hz,Bool.and_self,if_true,h0]
     rfl
    ·have hp:=Mb7 n
     have q1:=ab3 (g:=g3 n) k1 (by omega)
     have q2:=ab3 (g:=g3 n) k2 (by omega)
     have q3:=ab3 (g:=g3 n) k3 (by omega)
     rw[Hb7 (q1.mono (by omega)),Hb7 (q2.mono (by omega)),Hb7 (q3.mono (by omega))] at hpr
     have pp:ya3 n=(⟨Int.tdiv n.x (g3 n),Int.tdiv n.y (g3 n),Int.tdiv n.z (g3 n)⟩,g3 n):=by unfold ya3;rw[hpr,if_neg h0];rfl
     have hdot:r7 ⟨Int.tdiv n.x (g3 n),Int.tdiv n.y (g3 n),Int.tdiv n.z (g3 n)⟩ a=dot ⟨Int.tdiv n.x (g3 n),Int.tdiv n.y (g3 n),Int.tdiv n.z (g3 n)⟩ a:=by
      unfold r7
      simp only[Gb5,nc0]
      obtain⟨⟨a1,a2⟩,⟨a3,a4⟩,a5,a6⟩:=(xb2 a).1 ha
      have r1:=mb q1.1 q1.2 a1 a2;have r2:=mb q2.1 q2.2 a3 a4;have r3:=mb q3.1 q3.2 a5 a6
      rw[ka8 (by omega) (by omega)]
      rfl
     simp only[gp,pp,hdot,Bool.and_self,if_true,h0,if_false,show g3 n > 0 from by omega,decide_true]
     rfl
theorem xb5 (a b c:V3):H7 a b c=D7 a b c:=by unfold H7;rw[vc9];rfl
theorem Wb6 (a b c:V3):ha3 a b c=true:=by unfold ha3;rw[vc9];rfl
end Go.Ev.Ce
namespace Go.Ev.Ce
open Go Go.Ev Go.Ev.L Go.Proofs
theorem we1 (v:V3) (p:Pln):Ra6 ⟨v.x,v.y,v.z,p.n.x,p.n.y,p.n.z,p.b⟩=⟨1,U9 p v != 0⟩:=by
 unfold Ra6 sa4
 simp only[Hc5,Hc6,q8]
theorem Ie8 (l:List V3) (p:Pln) (hl:l.length≤1000000000):X8 ⟨l,p.n.x,p.n.y,p.n.z,p.b⟩=⟨1,if l.any (fun v=>U9 p v != 0) then ((l.findIdx (fun v=>U9 p v != 0):Nat):Int) else -1⟩:=by
 have h:=Ka6 (step:=G3 ⟨l,(l.length:Int),p.n.x,p.n.y,p.n.z,p.b⟩) (mk:=fun j=>(⟨(j:Int)⟩:p7)) (c:=fun v=>U9 p v != 0) (u:=1) (fin:=2) tV l hl
  (fun j hj=>by
   simp only[G3,D9,Int.toNat_natCast,we1,o6 hj (by omega)]
   rw[bt (Rc0 hj),bt (f7 hj)]
   rfl)
  (by simp only[G3,D9];rw[bf (dc8 (Nat.lt_irrefl _))]) 0 (Nat.zero_le _)
 rw[List.drop_zero] at h
 unfold X8 E6
 simp only[j8,j7]
 rw[show (⟨0⟩:p7)=⟨((0:Nat):Int)⟩ from rfl,h]
 split
 ·simp only[Nat.zero_add];rfl
 ·rfl
theorem be1 (l:List V3) (p:Pln) (hl:l.length≤1000000000):r9 ⟨l,p.n.x,p.n.y,p.n.z,p.b⟩=⟨1,l.any fun v=>U9 p v != 0⟩:=by
 unfold r9 B0
 simp only[j8,j7,Ie8 l p hl]
 split
 ·rename_i h
  rw[h,show decide (((l.findIdx (fun v=>U9 p v != 0):Nat):Int)≥0)=true from decide_eq_true (by omega)];rfl
 ·rename_i h
  rw[Bool.not_eq_true] at h
  rw[h];rfl
theorem Ie9 (v:V3) (p:Pln):Ea0 ⟨v.x,v.y,v.z,p.n.x,p.n.y,p.n.z,p.b⟩=⟨1,decide (U9 p v > 0)⟩:=by
 unfold Ea0 ha4
 simp only[Hc5,Hc6,q8]
theorem Je0 (l:List V3) (p:Pln) (hl:l.length≤1000000000):Y1 ⟨l,p.n.x,p.n.y,p.n.z,p.b⟩=⟨1,if l.any (fun v=>decide (U9 p v > 0)) then ((l.findIdx (fun v=>decide (U9 p v > 0)):Nat):Int) else -1⟩:=by
 have h:=Ka6 (step:=G4 ⟨l,(l.length:Int),p.n.x,p.n.y,p.n.z,p.b⟩) (mk:=fun j=>(⟨(j:Int)⟩:p8)) (c:=fun v=>decide (U9 p v > 0)) (u:=1) (fin:=2) tV l hl
  (fun j hj=>by
   simp only[G4,E0,Int.toNat_natCast,Ie9,o6 hj (by omega)]
   rw[bt (Rc0 hj),bt (f7 hj)]
   rfl)
  (by simp only[G4,E0];rw[bf (dc8 (Nat.lt_irrefl _))]) 0 (Nat.zero_le _)
 rw[List.drop_zero] at h
 unfold Y1 E7
 simp only[j8,j7]
 rw[show (⟨0⟩:p8)=⟨((0:Nat):Int)⟩ from rfl,h]
 split
 ·simp only[Nat.zero_add];rfl
 ·rfl
theorem Je1 (l:List V3) (p:Pln) (hl:l.length≤1000000000):O5 ⟨l,p.n.x,p.n.y,p.n.z,p.b⟩=⟨1,l.any fun v=>decide (U9 p v > 0)⟩:=by
 unfold O5 B1
 simp only[j8,j7,Je0 l p hl]
 split
 ·rename_i h
  rw[h,show decide (((l.findIdx (fun v=>decide (U9 p v > 0)):Nat):Int)≥0)=true from decide_eq_true (by omega)];rfl
 ·rename_i h
  rw[Bool.not_eq_true] at h
  rw[h];rfl
def bey (l:List V3) (p:Pln):Bool:=l.any fun v=>decide (U9 p v > 0)
theorem md3 (l:List V3) (p:Pln) (hl:l.length≤1000000000):Ba5 l p=some (b (bey l p),[]):=by
 unfold Ba5
 simp only[j8,j7,Je1 l p hl]
 rfl
theorem we2 (l:List V3) (p:Pln) (hl:l.length≤1000000000):da0 l p=bey l p:=by unfold da0;rw[md3 l p hl];rfl
theorem we3 (l:List V3) (p:Pln) (hl:l.length≤1000000000):H9 l p=true:=by unfold H9;rw[md3 l p hl];rfl
end Go.Ev.Ce
namespace Go.Ev.Ce
open Go Go.Ev Go.Ev.L Go.Proofs
theorem Uc0 {α:Type} (t:Ty α) (l:List α) {j k:Nat} (h:k < j):gL t (l.take j) k=gL t l k:=by
 simp[gL,List.getD_eq_getElem?_getD,List.getElem?_take,h]
theorem we4 (l : List V3) (i j : Nat) (hi : i < l.length) (hj : j < i) (hl : l.length ≤ 1000000) :
  lp (O2 ⟨(i:Int),(j:Int),(l.length:Int),(i:Int),(i:Int),(j:Int),(j:Int),l,l⟩) ⟨0⟩ =
   if (l.take j).any (fun v=>(D7 v (gL tV l j) (gL tV l i)).2) then (1,⟨((l.take j).findIdx (fun v=>(D7 v (gL tV l j) (gL tV l i)).2):Nat)⟩) else (2,⟨(j:Int)⟩):=by
 have hlen:(l.take j).length=j:=by rw[List.length_take];omega
 have h:=Ka6 (step:=O2 ⟨(i:Int),(j:Int),(l.length:Int),(i:Int),(i:Int),(j:Int),(j:Int),l,l⟩) (mk:=fun k=>(⟨(k:Int)⟩:H8)) (c:=fun v=>(D7 v (gL tV l j) (gL tV l i)).2) (u:=1) (fin:=2) tV (l.take j) (by omega)
  (fun k hk=>by
   rw[hlen] at hk
   simp only[O2,qa1,Int.toNat_natCast,xb5,Wb6,Uc0 tV l hk,j8,j7,be1 l _ (show l.length≤1000000000 by omega),o6 hk (by omega)]
   rw[btD (i8 hk),bt (f7 (by omega)),bt (f7 (by omega)),bt (f7 hi),q8]
   cases (D7 (gL tV l k) (gL tV l j) (gL tV l i)).2<;>rfl)
  (by rw[hlen];simp only[O2,qa1];rw[bfD (i7 (Nat.lt_irrefl _))]) 0 (Nat.zero_le _)
 rw[List.drop_zero,hlen] at h
 rw[show (⟨0⟩:H8)=⟨((0:Nat):Int)⟩ from rfl,h]
 split
 ·simp only[Nat.zero_add]
 ·rfl
end Go.Ev.Ce
namespace Go.Ev.Ce
open Go Go.Ev Go.Ev.L Go.Proofs
def ixs (n:Nat):List Int:=(List.range n).map fun k:Nat=>(k:Int)
theorem ab5 (n:Nat):(ixs n).length=n:=by simp[ixs]
theorem be2 {n k:Nat} (h:k < n):gL tI (ixs n) k=(k:Int):=by
 simp[gL,ixs,List.getD_eq_getElem?_getD,List.getElem?_map,List.getElem?_range h]
noncomputable def sp2 (l:List V3) (i:Nat) (m:Int):Bool:=(l.take m.toNat).any fun v=>(D7 v (gL tV l m.toNat) (gL tV l i)).2
theorem we5 (l : List V3) (i : Nat) (hi : i < l.length) (hl : l.length ≤ 1000000) :
  lp (W5 ⟨(i:Int),(l.length:Int),(i:Int),(i:Int)⟩) ⟨0,l,l⟩=if (ixs i).any (sp2 l i) then (1,⟨((ixs i).findIdx (sp2 l i):Nat),l,l⟩) else (2,⟨(i:Int),l,l⟩):=by
 have h:=Ka6 (step:=W5 ⟨(i:Int),(l.length:Int),(i:Int),(i:Int)⟩) (mk:=fun j=>(⟨(j:Int),l,l⟩:L4)) (c:=sp2 l i) (u:=1) (fin:=2) tI (ixs i) (by rw[ab5];omega)
  (fun j hj=>by
   rw[ab5] at hj
   simp only[W5,qa2,Int.toNat_natCast,Nat.sub_zero,j8,j7,we4 l i j hi hj hl,o6 hj (by omega),be2 hj]
   rw[btD (i8 hj),bt (f7 (by omega))]
   unfold sp2
   simp only[Int.toNat_natCast]
   cases ((l.take j).any fun v=>(D7 v (gL tV l j) (gL tV l i)).2)<;>rfl)
  (by rw[ab5];simp only[W5,qa2];rw[bfD (i7 (Nat.lt_irrefl _))]) 0 (Nat.zero_le _)
 rw[List.drop_zero,ab5] at h
 rw[show (⟨0,l,l⟩:L4)=⟨((0:Nat):Int),l,l⟩ from rfl,h]
 split
 ·simp only[Nat.zero_add]
 ·rfl
noncomputable def sp1 (l:List V3) (m:Int):Bool:=(ixs m.toNat).any (sp2 l m.toNat)
theorem Xe6 (l : List V3) (hl : l.length ≤ 1000000) :
  lp (na2 ⟨(l.length:Int)⟩) ⟨0,l,l⟩=if (ixs l.length).any (sp1 l) then (1,⟨((ixs l.length).findIdx (sp1 l):Nat),l,l⟩) else (2,⟨(l.length:Int),l,l⟩):=by
 have h:=Ka6 (step:=na2 ⟨(l.length:Int)⟩) (mk:=fun j=>(⟨(j:Int),l,l⟩:U8)) (c:=sp1 l) (u:=1) (fin:=2) tI (ixs l.length) (by rw[ab5];omega)
  (fun i hi=>by
   rw[ab5] at hi
   simp only[na2,qa3,Int.toNat_natCast,Nat.sub_zero,j8,j7,we5 l i hi hl,o6 hi (by omega),be2 hi]
   rw[btD (i8 hi),bt (f7 (by omega))]
   unfold sp1
   simp only[Int.toNat_natCast]
   cases (ixs i).any (sp2 l i)<;>rfl)
  (by rw[ab5];simp only[na2,qa3];rw[bfD (i7 (Nat.lt_irrefl _))]) 0 (Nat.zero_le _)
 rw[List.drop_zero,ab5] at h
 rw[show (⟨0,l,l⟩:U8)=⟨((0:Nat):Int),l,l⟩ from rfl,h]
 split
 ·simp only[Nat.zero_add]
 ·rfl
end Go.Ev.Ce
namespace Go.Ev.Ce
open Go Go.Ev Go.Ev.L Go.Proofs
theorem vd3 {α:Type} {l:List α} {c:α→Bool} (h:l.any c=true):l.findIdx c < l.length:=by
 obtain⟨x,h1,h2⟩:=List.any_eq_true.1 h
 exact List.findIdx_lt_length_of_exists ⟨x,h1,h2⟩
theorem Nb4 {n:Nat} {c:Int→Bool} (h:(ixs n).any c=true):(ixs n).findIdx c < n∧c ((ixs n).findIdx c:Nat)=true:=by
 have hlt:=vd3 h
 have h1:=List.findIdx_getElem (xs:=ixs n) (p:=c) (w:=hlt)
 rw[ab5] at hlt
 refine⟨hlt,?_⟩
 simpa [ixs] using h1
noncomputable def iF (l:List V3):Nat:=(ixs l.length).findIdx (sp1 l)
noncomputable def jF (l:List V3):Nat:=(ixs (iF l)).findIdx (sp2 l (iF l))
noncomputable def kF (l:List V3):Nat:=(l.take (jF l)).findIdx (fun v=>(D7 v (gL tV l (jF l)) (gL tV l (iF l))).2)
noncomputable def plF (l:List V3):Pln:=(D7 (gL tV l (kF l)) (gL tV l (jF l)) (gL tV l (iF l))).1
noncomputable def Ib6 (l:List V3):Bool:=if (ixs l.length).any (sp1 l) then !(l.any fun v=>U9 (plF l) v != 0) else true
theorem Jd1 (l:List V3) (hl:l.length≤1000000):Ta9 l=some (b (Ib6 l),[]):=by
 unfold Ta9 Ib6
 simp only[j8,j7]
 rw[Xe6 l hl]
 by_cases h:(ixs l.length).any (sp1 l)=true
 ·obtain⟨hi,h1⟩:=Nb4 h
  have h1:(ixs (iF l)).any (sp2 l (iF l))=true:=h1
  obtain⟨hj,h2⟩:=Nb4 h1
  have h2:(l.take (jF l)).any (fun v=>(D7 v (gL tV l (jF l)) (gL tV l (iF l))).2)=true:=h2
  rw[if_pos h,if_pos h]
  simp only[Int.toNat_natCast,Nat.sub_zero]
  rw[show (ixs l.length).findIdx (sp1 l)=iF l from rfl,we5 l (iF l) hi hl,if_pos h1]
  simp only[Int.toNat_natCast,Nat.sub_zero]
  rw[show (ixs (iF l)).findIdx (sp2 l (iF l))=jF l from rfl,we4 l (iF l) (jF l) hi hj hl,if_pos h2]
  simp only[Int.toNat_natCast,xb5]
  rw[show (l.take (jF l)).findIdx (fun v=>(D7 v (gL tV l (jF l)) (gL tV l (iF l))).2)=kF l from rfl,show (D7 (gL tV l (kF l)) (gL tV l (jF l)) (gL tV l (iF l))).1=plF l from rfl,be1 l _ (by omega)]
  rfl
 ·rw[if_neg h,if_neg h]
  rfl
theorem Je2 (l:List V3) (hl:l.length≤1000000):kb4 l=Ib6 l:=by unfold kb4;rw[Jd1 l hl];rfl
theorem Je3 (l:List V3) (hl:l.length≤1000000):kb5 l=true:=by unfold kb5;rw[Jd1 l hl];rfl
end Go.Ev.Ce
namespace Go.Ev.Ce
open Go Go.Ev Go.Ev.L Go.Proofs
theorem md4 (v:V3):wa0 v=some (b (!inV v),[]):=by
 unfold wa0
 simp only[(qc1 v).1,(qc1 v).2,q8]
theorem we6 (v:V3):Ja8 v=!inV v:=by unfold Ja8;rw[md4];rfl
theorem we7 (v:V3):Ja9 v=true:=by unfold Ja9;rw[md4];rfl
theorem Je4 (l:List V3) (hl:l.length≤1000000000):Y4 ⟨l⟩=⟨1,if l.any (fun v=>!inV v) then ((l.findIdx (fun v=>!inV v):Nat):Int) else -1⟩:=by
 have h:=Ka6 (step:=G5 ⟨l,(l.length:Int)⟩) (mk:=fun j=>(⟨(j:Int)⟩:p9)) (c:=fun v=>!inV v) (u:=1) (fin:=2) tV l hl
  (fun j hj=>by
   simp only[G5,E1,Int.toNat_natCast,we6,we7,o6 hj (by omega)]
   rw[bt (Rc0 hj),bt (f7 hj),q8])
  (by simp only[G5,E1];rw[bf (dc8 (Nat.lt_irrefl _))]) 0 (Nat.zero_le _)
 rw[List.drop_zero] at h
 unfold Y4 E8
 simp only[j8,j7]
 rw[show (⟨0⟩:p9)=⟨((0:Nat):Int)⟩ from rfl,h]
 split
 ·simp only[Nat.zero_add];rfl
 ·rfl
theorem Je5 (l:List V3) (hl:l.length≤1000000000):O8 ⟨l⟩=⟨1,l.any fun v=>!inV v⟩:=by
 unfold O8 B4
 simp only[j8,j7,Je4 l hl]
 split
 ·rename_i h
  rw[h,show decide (((l.findIdx (fun v=>!inV v):Nat):Int)≥0)=true from decide_eq_true (by omega)];rfl
 ·rename_i h
  rw[Bool.not_eq_true] at h
  rw[h];rfl
noncomputable def za8 (l:List V3):Int:=if (l.length:Int) > 48 then 2 else if l.any (fun v=>!inV v) then 3 else if Ib6 l then 11 else 0
theorem md5 (l:List V3) (hl:l.length≤1000000):Ka0 l=some (i (za8 l),[]):=by
 unfold Ka0 za8
 simp only[j8,j7,N6,Je5 l (by omega),Je2 l hl,Je3 l hl]
 by_cases h:(l.length:Int) > 48
 ·rw[btD h,if_pos h]
 ·rw[bfD h,if_neg h]
  cases l.any fun v=>!inV v with
  | true=>rfl
  | false=>cases Ib6 l<;>rfl
theorem Uc1 (l:List V3) (hl:l.length≤1000000):Ka1 l=za8 l:=by unfold Ka1;rw[md5 l hl];rfl
theorem Uc2 (l:List V3) (hl:l.length≤1000000):Ka2 l=true:=by unfold Ka2;rw[md5 l hl];rfl
end Go.Ev.Ce
namespace Go.Ev.Ce
open Go Go.Ev Go.Ev.L Go.Proofs
theorem we8 {p:Pln} (h:Bd p):ya2 p=oa1 p:=by
 unfold ya2 va6 oa1
 simp only
 have:=h.x1;have:=h.x2;have:=h.y1;have:=h.y2;have:=h.z1;have:=h.z2;have:=h.b1;have:=h.b2
 rw[ka8 (by omega) (by omega),ka8 (by omega) (by omega),ka8 (by omega) (by omega),ka8 (by omega) (by omega)]
 simp only[Int.zero_sub]
noncomputable def vd4 (p:Pln):List b7:=[i p.n.x,i p.n.y,i p.n.z,i p.b,b true]
noncomputable def lb5 (l:List Pln):List (List b7):=l.map vd4
theorem md6 (x q:Pln):tb4 flK [i x.n.x,i x.n.y,i x.n.z,i x.b] (vd4 q)=eqP q x:=by
 show Bool.and (decide (x.n.x=q.n.x)) (Bool.and (decide (x.n.y=q.n.y)) (Bool.and (decide (x.n.z=q.n.z)) (Bool.and (decide (x.b=q.b)) true)))=_
 unfold eqP
 have h:∀ a c:Int,decide (a=c)=(c==a):=fun a c=>by rw[Bool.eq_iff_iff,decide_eq_true_eq,beq_iff_eq];exact eq_comm
 rw[h,h,h,h]
theorem Jd2 (x:Pln):∀ l,Ga6 4 [(0,(.int .i64)),(1,(.int .i64)),(2,(.int .i64)),(3,(.int .i64))] [i x.n.x,i x.n.y,i x.n.z,i x.b] (lb5 l)=gc2 l x
 | []=>rfl
 | q::l=>by
  have ih:=Jd2 x l
  unfold Ga6 at ih ⊢
  show Option.rec (motive:=fun _=>Bool) false (fun r=>toB (hdA (d9 r 4))) (Bool.rec (motive:=fun _=>Option (List b7)) (Yb2 flK [i x.n.x,i x.n.y,i x.n.z,i x.b] (lb5 l)) (some (vd4 q)) (tb4 flK [i x.n.x,i x.n.y,i x.n.z,i x.b] (vd4 q)))=gc2 (q::l) x
  rw[md6]
  unfold gc2 at ih ⊢
  rw[List.any_cons]
  cases eqP q x with
  | true=>rfl
  | false=>exact ih
theorem Td7 (x:Pln):∀ l,gc2 l x=false→V2 [(0,(.int .i64)),(1,(.int .i64)),(2,(.int .i64)),(3,(.int .i64))] [i x.n.x,i x.n.y,i x.n.z,i x.b] [i x.n.x,i x.n.y,i x.n.z,i x.b,b true] (lb5 l)=lb5 (l++[x])
 | [],_=>rfl
 | q::l,h=>by
  unfold gc2 at h
  rw[List.any_cons,Bool.or_eq_false_iff] at h
  show Bool.rec (motive:=fun _=>List (List b7)) (vd4 q::V2 flK [i x.n.x,i x.n.y,i x.n.z,i x.b] (vd4 x) (lb5 l)) (vd4 x::lb5 l) (tb4 flK [i x.n.x,i x.n.y,i x.n.z,i x.b] (vd4 q))=_
  rw[md6,h.1,show V2 flK [i x.n.x,i x.n.y,i x.n.z,i x.b] (vd4 x) (lb5 l)=_ from Td7 x l h.2]
  rfl
noncomputable def Wb7 (s:List Pln) (p:Pln):List Pln:=if gc2 s p then s else s++[p]
theorem we9 (s:List Pln) (p q:Pln):q∈Wb7 s p↔q∈s∨q=p:=by
 unfold Wb7
 split
 ·rename_i h
  rw[Id0] at h
  exact⟨.inl,fun h'=>h'.elim id fun e=>e ▸ h⟩
 ·rw[List.mem_append,List.mem_singleton]
theorem Uc3 {s:List Pln} {p:Pln} (h:s.Nodup):(Wb7 s p).Nodup:=by
 unfold Wb7
 split
 ·exact h
 ·rename_i hn
  rw[Id0] at hn
  rw[List.nodup_append]
  exact⟨h,by simp,fun a ha b hb=>by rw[List.mem_singleton.1 hb];intro e;exact hn (e ▸ ha)⟩
theorem Jd3 (s:List Pln) (p:Pln):(Wb7 s p).length≤s.length+1:=by
 unfold Wb7
 split
 ·omega
 ·simp
def fil (l:List V3) (s:List Pln):List Pln:=s.filter fun p=>!bey l p
theorem Hc7 (l:List V3) (s:List Pln) (p:Pln):fil l (s++[p])=if bey l p then fil l s else fil l s++[p]:=by
 unfold fil
 rw[List.filter_append,List.filter_cons,List.filter_nil]
 cases bey l p<;>simp
theorem vd5 (l:List V3) (s:List Pln):(fil l s).length≤s.length:=List.length_filter_le _ _
noncomputable def Sb5 (l:List V3) (a c:Nat) (s:List Pln) (k:Nat):List Pln :=
 if (D7 (gL tV l k) (gL tV l c) (gL tV l a)).2 then Wb7 (Wb7 s (D7 (gL tV l k) (gL tV l c) (gL tV l a)).1) (oa1 (D7 (gL tV l k) (gL tV l c) (gL tV l a)).1) else s
noncomputable def G2 (l:List V3) (a:Nat) (s:List Pln) (c:Nat):List Pln:=(List.range c).foldl (Sb5 l a c) s
noncomputable def G1 (l:List V3) (s:List Pln) (a:Nat):List Pln:=(List.range a).foldl (G2 l a) s
noncomputable def G0 (l:List V3):List Pln:=(List.range l.length).foldl (G1 l) []
theorem md7 (l:List V3) (a c:Nat) (s:List Pln) (k:Nat):(Sb5 l a c s k).length≤s.length+2:=by
 unfold Sb5
 split
 ·have h1:=Jd3 (Wb7 s (D7 (gL tV l k) (gL tV l c) (gL tV l a)).1) (oa1 (D7 (gL tV l k) (gL tV l c) (gL tV l a)).1)
  have h2:=Jd3 s (D7 (gL tV l k) (gL tV l c) (gL tV l a)).1
  omega
 ·omega
theorem Xe7 (l:List V3) (a:Nat) (s:List Pln) (c:Nat):(G2 l a s c).length≤s.length+2*c:=sb4 (md7 l a c) s c
theorem Td8 (l:List V3) (a:Nat) (s:List Pln):∀ j,j≤a→a≤48→((List.range j).foldl (G2 l a) s).length≤s.length+96*j
 | 0,_,_=>Nat.le_refl _
 | j+1,h,ha=>by
  rw[r4]
  have h1:=Td8 l a s j (by omega) ha
  have h2:=Xe7 l a ((List.range j).foldl (G2 l a) s) j
  omega
theorem vd6 (l:List V3) (hl:l.length≤48):∀ j,j≤l.length→((List.range j).foldl (G1 l) []).length≤5000*j
 | 0,_=>Nat.le_refl _
 | j+1,h=>by
  rw[r4]
  have h1:=vd6 l hl j (by omega)
  have h2:(G1 l ((List.range j).foldl (G1 l) []) j).length≤_:=Td8 l j ((List.range j).foldl (G1 l) []) j (Nat.le_refl _) (by omega)
  omega
@[reducible] noncomputable def mkf (l:List V3) (k:Nat) (s:List Pln):B5:=⟨phP (fil l s),(k:Int),lb5 s,(fil l s).length,bL tP (fil l s)⟩
theorem sb6 {n:Nat} {l:List Pln} (hn:n=l.length) (h:l.length≤1000000000):(Nat.beq n (len (bL tP l))&&Nat.ble ((n+1)*32) room)=true:=by
 subst hn
 rw[ga2,Nat.beq_refl,Bool.true_and]
 exact ab1 (by omega)
theorem be3 (o:List Pln) (x:Pln):phP (o++[x])=1:=by cases o<;>rfl
theorem xe0 (l : List V3) (hl : l.length ≤ 48) (a c k : Nat) (ha : a < l.length) (hc : c < a) (hk : k < c) (x1 x2 x3 x4 : Int) (s : List Pln) (ho : s.length ≤ 900000) :
  Q5 ⟨(a:Int),(c:Int),x1,x2,x3,x4,(c:Int),l,l⟩ (mkf l k s)=.next (mkf l (k+1) (Sb5 l a c s k)):=by
 have hfl:ya2 (D7 (gL tV l k) (gL tV l c) (gL tV l a)).1=oa1 (D7 (gL tV l k) (gL tV l c) (gL tV l a)).1:=we8 (ae4 _ _ _)
 have hb:∀ p,da0 l p=bey l p:=fun p=>we2 l p (by omega)
 have hg:∀ p,H9 l p=true:=fun p=>we3 l p (by omega)
 have hn:=o6 hk (show c≤4611686018427387904 by omega)
 have b1:inB (a:Int) l.length=true:=f7 ha
 have b2:inB (c:Int) l.length=true:=f7 (by omega)
 have b3:inB (k:Int) l.length=true:=f7 (by omega)
 have hfl2:=vd5 l s
 unfold Sb5
 unfold mkf
 generalize hT:D7 (gL tV l k) (gL tV l c) (gL tV l a)=T at *
 cases hO:fil l s with
 | nil =>
  show S9 Stp.next Stp.exit Stp.fail _ _=_
  simp only[S9,xb5,Wb6,Int.toNat_natCast,j8,N6,hT,hfl,hb,hg,hn,b1,b2,b3,Jd2]
  rw[btD (i8 hk)]
  cases h2:T.2 with
  | false=>simp only[Bool.false_eq_true,if_false,hO];rfl
  | true =>
   simp only[if_true,q8]
   cases h3:gc2 s T.1 with
   | true =>
    cases h4:gc2 s (oa1 T.1) with
    | true=>simp only[Wb7,h3,h4,if_true,hO];rfl
    | false =>
     rw[Td7 _ _ h4]
     cases h5:bey l (oa1 T.1)<;>(simp only[Wb7,h3,h4,h5,if_true,if_false,Bool.false_eq_true,Hc7,hO];rfl)
   | false =>
    simp only[Td7 _ _ h3,Jd2]
    cases h5:bey l T.1<;>cases h4:gc2 (s++[T.1]) (oa1 T.1)<;>(try simp only[Td7 _ _ h4])<;>cases h6:bey l (oa1 T.1)<;>(simp only[Wb7,h3,h4,h5,h6,if_true,if_false,Bool.false_eq_true,Hc7,hO];rfl)
 | cons q o =>
  have rr:(Nat.beq (q::o).length (len (bL tP (q::o)))&&Nat.ble (((q::o).length+1)*32) room)=true:=sb6 rfl (by rw[← hO];omega)
  have ap:∀ (O:List Pln) (p:Pln),app (bL tP O) [[i p.n.x,i p.n.y,i p.n.z,i p.b]]=bL tP (O++[p]):=fun O p=>Fa5 tP O [p]
  have rr2:∀ p:Pln,(Nat.beq ((q::o).length+1) (len (bL tP (q::o++[p])))&&Nat.ble (((q::o).length+1+1)*32) room)=true:=fun p=>sb6 (by simp) (by rw[← hO,List.length_append,List.length_singleton];omega)
  show T0 Stp.next Stp.exit Stp.fail _ _=_
  simp only[T0,xb5,Wb6,Int.toNat_natCast,j8,N6,hT,hfl,hb,hg,hn,b1,b2,b3,Jd2,rr,ap,rr2]
  rw[btD (i8 hk)]
  cases h2:T.2 with
  | false=>simp only[Bool.false_eq_true,if_false,hO];rfl
  | true =>
   simp only[if_true,q8]
   cases h3:gc2 s T.1 with
   | true =>
    cases h4:gc2 s (oa1 T.1) with
    | true=>simp only[Wb7,h3,h4,if_true,hO];rfl
    | false =>
     rw[Td7 _ _ h4]
     cases h5:bey l (oa1 T.1)<;>(simp only[Wb7,h3,h4,h5,if_true,if_false,Bool.false_eq_true,Hc7,hO,be3,List.length_append,List.length_singleton];rfl)
   | false =>
    simp only[Td7 _ _ h3,Jd2]
    cases h5:bey l T.1<;>cases h4:gc2 (s++[T.1]) (oa1 T.1)<;>(try simp only[Td7 _ _ h4])<;>cases h6:bey l (oa1 T.1)<;>(simp only[Wb7,h3,h4,h5,h6,if_true,if_false,Bool.false_eq_true,Hc7,hO,be3,List.length_append,List.length_singleton];rfl)
theorem Xe8 (l : List V3) (hl : l.length ≤ 48) (a c : Nat) (ha : a < l.length) (hc : c < a) (x1 x2 x3 x4 : Int) (s : List Pln) (ho : s.length ≤ 800000) :
  ∃ j,lp (Q5 ⟨(a:Int),(c:Int),x1,x2,x3,x4,(c:Int),l,l⟩) (mkf l 0 s)=(phP (fil l (G2 l a s c))+1,mkf l j (G2 l a s c)):=by
 have key:=F5 (step:=Q5 ⟨(a:Int),(c:Int),x1,x2,x3,x4,(c:Int),l,l⟩) (mk:=mkf l) c (fun j o=>j≤c∧o=(List.range j).foldl (Sb5 l a c) s) (fun t r=>t=phP (fil l (G2 l a s c))+1∧∃ j:Nat,r=mkf l j (G2 l a s c)) (by omega)
  (fun j o hj hi=>by
   obtain⟨_,hi⟩:=hi
   have hlen:o.length≤900000:=by
    rw[hi]
    have:=sb4 (md7 l a c) s j
    omega
   rw[xe0 l hl a c j ha hc hj x1 x2 x3 x4 o hlen]
   exact .nx ⟨_,rfl,by omega,by rw[r4,← hi]⟩)
  (fun j o hj hi=>by
   obtain⟨h1,hi⟩:=hi
   have e:j=c:=by omega
   subst e
   have hF:o=G2 l a s j:=hi
   rw[← hF]
   refine⟨_,?_,rfl,j,rfl⟩
   unfold mkf
   cases hO:fil l o with
   | nil =>
    show S9 Stp.next Stp.exit Stp.fail _ _=_
    simp only[S9]
    rw[bfD (i7 (Nat.lt_irrefl _))]
    rfl
   | cons q o =>
    show T0 Stp.next Stp.exit Stp.fail _ _=_
    simp only[T0]
    rw[bfD (i7 (Nat.lt_irrefl _))]
    rfl) 0 s ⟨Nat.zero_le _,rfl⟩
 obtain⟨t,r,h1,rfl,j,rfl⟩:=key
 exact⟨j,h1⟩
@[reducible] noncomputable def Uc4 (l:List V3) (k:Nat) (s:List Pln):A0:=⟨phP (fil l s),(k:Int),l,l,lb5 s,(fil l s).length,bL tP (fil l s)⟩
theorem Xe9 (l : List V3) (hl : l.length ≤ 48) (a : Nat) (ha : a < l.length) (x1 x2 : Int) (s : List Pln) (ho : s.length ≤ 700000) :
  ∃ j,lp (aa6 ⟨(a:Int),x1,x2,(a:Int)⟩) (Uc4 l 0 s)=(phP (fil l (G1 l s a))+1,Uc4 l j (G1 l s a)):=by
 have key:=F5 (step:=aa6 ⟨(a:Int),x1,x2,(a:Int)⟩) (mk:=Uc4 l) a (fun j o=>j≤a∧o=(List.range j).foldl (G2 l a) s) (fun t r=>t=phP (fil l (G1 l s a))+1∧∃ j:Nat,r=Uc4 l j (G1 l s a)) (by omega)
  (fun j o hj hi=>by
   obtain⟨hja,hi⟩:=hi
   have hlen:o.length≤800000:=by rw[hi];have:=Td8 l a s j hja (by omega);omega
   have hn:=o6 hj (show a≤4611686018427387904 by omega)
   have bj:inB (j:Int) (l.length+1)=true:=f7 (by omega)
   obtain⟨j',e1⟩:=Xe8 l hl a j ha hj x1 x2 (a:Int) (j:Int) o hlen
   have fin : ∀ {r : A0}, r = Uc4 l (j + 1) (G2 l a o j) → Nx (.next r) (fun t => t = phP (fil l (G1 l s a)) + 1 ∧ ∃ j' : Nat, Uc4 l j o = Uc4 l j' (G1 l s a))
     (fun r=>∃ o',r=Uc4 l (j+1) o'∧(j+1≤a∧o'=(List.range (j+1)).foldl (G2 l a) s)):=fun {r} hs =>
    .nx ⟨_,hs,by omega,by rw[r4,← hi]⟩
   clear hi
   generalize hF:G2 l a o j=R at *
   unfold Uc4 at *
   unfold mkf at e1
   cases hO:fil l o with
   | nil =>
    rw[hO] at e1 fin
    show Nx (T1 Stp.next Stp.exit Stp.fail _ _) _ _
    simp only[T1,j8,j7,hn,bj,Int.toNat_natCast,Nat.sub_zero]
    have e1:lp (Q5 ⟨(a:Int),(j:Int),x1,x2,(a:Int),(j:Int),(j:Int),l,l⟩) ⟨0,0,lb5 o,0,[]⟩=_:=e1
    rw[btD (i8 hj),e1]
    cases hR:fil l R with
    | nil=>exact fin (by rw[hR];rfl)
    | cons q R'=>exact fin (by rw[hR];rfl)
   | cons q o' =>
    rw[hO] at e1 fin
    show Nx (T2 Stp.next Stp.exit Stp.fail _ _) _ _
    simp only[T2,j8,j7,hn,bj,Int.toNat_natCast,Nat.sub_zero]
    have e1:lp (Q5 ⟨(a:Int),(j:Int),x1,x2,(a:Int),(j:Int),(j:Int),l,l⟩) ⟨1,0,lb5 o,(q::o').length,bL tP (q::o')⟩=_:=e1
    rw[btD (i8 hj),e1]
    cases hR:fil l R with
    | nil=>exact fin (by rw[hR];rfl)
    | cons q R'=>exact fin (by rw[hR];rfl))
  (fun j o hj hi=>by
   obtain⟨h1,hi⟩:=hi
   have e:j=a:=by omega
   subst e
   have hF:o=G1 l s j:=hi
   rw[← hF]
   refine⟨_,?_,rfl,j,rfl⟩
   unfold Uc4
   cases hO:fil l o with
   | nil =>
    show T1 Stp.next Stp.exit Stp.fail _ _=_
    simp only[T1]
    rw[bfD (i7 (Nat.lt_irrefl _))]
    rfl
   | cons q o =>
    show T2 Stp.next Stp.exit Stp.fail _ _=_
    simp only[T2]
    rw[bfD (i7 (Nat.lt_irrefl _))]
    rfl) 0 s ⟨Nat.zero_le _,rfl⟩
 obtain⟨t,r,h1,rfl,j,rfl⟩:=key
 exact⟨j,h1⟩
@[reducible] noncomputable def vd7 (l:List V3) (k:Nat) (s:List Pln):B6:=⟨phP (fil l s),(k:Int),l,l,lb5 s,(fil l s).length,bL tP (fil l s)⟩
theorem Ye0 (l : List V3) (hl : l.length ≤ 48) :
  ∃ j,lp (Ea2 ⟨(l.length:Int)⟩) ⟨0,0,l,l,[],0,[]⟩=(phP (fil l (G0 l))+1,vd7 l j (G0 l)):=by
 have key:=F5 (step:=Ea2 ⟨(l.length:Int)⟩) (mk:=vd7 l) l.length (fun j o=>j≤l.length∧o=(List.range j).foldl (G1 l) []) (fun t r=>t=phP (fil l (G0 l))+1∧∃ j:Nat,r=vd7 l j (G0 l)) (by omega)
  (fun j o hj hi=>by
   obtain⟨hja,hi⟩:=hi
   have hlen:o.length≤700000:=by rw[hi];have:=vd6 l hl j hja;omega
   have hn:=o6 hj (show l.length≤4611686018427387904 by omega)
   have bj:inB (j:Int) (l.length+1)=true:=f7 (by omega)
   obtain⟨j',e1⟩:=Xe9 l hl j hj (l.length:Int) (j:Int) o hlen
   have fin : ∀ {r : B6}, r = vd7 l (j + 1) (G1 l o j) → Nx (.next r) (fun t => t = phP (fil l (G0 l)) + 1 ∧ ∃ j' : Nat, vd7 l j o = vd7 l j' (G0 l))
     (fun r=>∃ o',r=vd7 l (j+1) o'∧(j+1≤l.length∧o'=(List.range (j+1)).foldl (G1 l) [])):=fun {r} hs =>
    .nx ⟨_,hs,by omega,by rw[r4,← hi]⟩
   clear hi
   generalize hF:G1 l o j=R at *
   unfold vd7 at *
   unfold Uc4 at e1
   cases hO:fil l o with
   | nil =>
    rw[hO] at e1 fin
    show Nx (T3 Stp.next Stp.exit Stp.fail _ _) _ _
    simp only[T3,j8,j7,hn,bj,Int.toNat_natCast,Nat.sub_zero]
    have e1:lp (aa6 ⟨(j:Int),(l.length:Int),(j:Int),(j:Int)⟩) ⟨0,0,l,l,lb5 o,0,[]⟩=_:=e1
    rw[btD (i8 hj),e1]
    cases hR:fil l R with
    | nil=>exact fin (by rw[hR];rfl)
    | cons q R'=>exact fin (by rw[hR];rfl)
   | cons q o' =>
    rw[hO] at e1 fin
    show Nx (T4 Stp.next Stp.exit Stp.fail _ _) _ _
    simp only[T4,j8,j7,hn,bj,Int.toNat_natCast,Nat.sub_zero]
    have e1:lp (aa6 ⟨(j:Int),(l.length:Int),(j:Int),(j:Int)⟩) ⟨1,0,l,l,lb5 o,(q::o').length,bL tP (q::o')⟩=_:=e1
    rw[btD (i8 hj),e1]
    cases hR:fil l R with
    | nil=>exact fin (by rw[hR];rfl)
    | cons q R'=>exact fin (by rw[hR];rfl))
  (fun j o hj hi=>by
   obtain⟨h1,hi⟩:=hi
   have e:j=l.length:=by omega
   subst e
   have hF:o=G0 l:=hi
   rw[← hF]
   refine⟨_,?_,rfl,l.length,rfl⟩
   unfold vd7
   cases hO:fil l o with
   | nil =>
    show T3 Stp.next Stp.exit Stp.fail _ _=_
    simp only[T3]
    rw[bfD (i7 (Nat.lt_irrefl _))]
    rfl
   | cons q o =>
    show T4 Stp.next Stp.exit Stp.fail _ _=_
    simp only[T4]
    rw[bfD (i7 (Nat.lt_irrefl _))]
    rfl) 0 [] ⟨Nat.zero_le _,rfl⟩
 obtain⟨t,r,h1,rfl,j,rfl⟩:=key
 exact⟨j,h1⟩
end Go.Ev.Ce
