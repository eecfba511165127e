/- Own work: a part of the proof. -/
import Derived.Test.YtekgjjgbdcgldaaGreatEvOJ4
import Derived.Test.YtekgjjgbdcgldaaGreatEvOE6
import Derived.Test.YtekgjjgbdcgldaaGreatEvSp3
import Derived.ChangeStays
import Derived.ChangeSame
import Derived.OpenShut
import Derived.RowKit
import Derived.Test.YtekgjjgbdcgldaaGreatEvODL
set_option linter.unusedVariables false
set_option linter.unusedSimpArgs false
set_option linter.unnecessarySimpa false
set_option linter.unusedSectionVars false
namespace Go.Ev.Ce
open Go Go.Ev Go.Ev.L Go.Proofs
theorem Td9 {F:List Pln} (h:∀ p∈F,okp p=true) {k:Nat} (hk:k < F.length):Bd (gL tP F k):=Ib0 (h _ (Pa5 tP hk))
theorem Je6 {n:V3} {r:Pln} (hn:Sm 42467328 n.x∧Sm 42467328 n.y∧Sm 42467328 n.z) (hr:Bd r):r7 n r.n=dot n r.n:=by
 obtain⟨⟨a1,a2⟩,⟨a3,a4⟩,a5,a6⟩:=hn
 have r1:=mb a1 a2 hr.x1 hr.x2;have r2:=mb a3 a4 hr.y1 hr.y2;have r3:=mb a5 a6 hr.z1 hr.z2
 unfold r7
 simp only[Gb5,nc0]
 rw[ka8 (by omega) (by omega)]
 rfl
theorem Je7 (l : List Pln) (n : V3) (hn : Sm 42467328 n.x ∧ Sm 42467328 n.y ∧ Sm 42467328 n.z) (hF : ∀ p ∈ l, okp p = true) (hl : l.length ≤ 1000000000) :
  R7 ⟨l,n.x,n.y,n.z⟩=⟨1,if l.any (fun r=>dot n r.n != 0) then ((l.findIdx (fun r=>dot n r.n != 0):Nat):Int) else -1⟩:=by
 have h:=Ka6 (step:=D4 ⟨l,(l.length:Int),n.x,n.y,n.z⟩) (mk:=fun j=>(⟨(j:Int)⟩:o5)) (c:=fun r=>dot n r.n != 0) (u:=1) (fin:=2) tP l hl
  (fun j hj=>by
   have e:=Je6 hn (Td9 hF hj)
   simp only[D4,C9,Int.toNat_natCast,Wa4,ha5,e,o6 hj (show l.length≤4611686018427387904 by omega)]
   rw[btD (i8 hj),bt (f7 hj)])
  (by simp only[D4,C9];rw[bfD (i7 (Nat.lt_irrefl _))]) 0 (Nat.zero_le _)
 rw[List.drop_zero] at h
 unfold R7 D1
 simp only[j8,j7]
 rw[show (⟨0⟩:o5)=⟨((0:Nat):Int)⟩ from rfl,h]
 split
 ·simp only[Nat.zero_add];rfl
 ·rfl
theorem Je8 (l : List Pln) (n : V3) (hn : Sm 42467328 n.x ∧ Sm 42467328 n.y ∧ Sm 42467328 n.z) (hF : ∀ p ∈ l, okp p = true) (hl : l.length ≤ 1000000000) :
  M3 ⟨l,n.x,n.y,n.z⟩=⟨1,l.any fun r=>dot n r.n != 0⟩:=by
 unfold M3 z6
 simp only[j8,j7,Je7 l n hn hF hl]
 split
 ·rename_i h
  rw[h,show decide (((l.findIdx (fun r=>dot n r.n != 0):Nat):Int)≥0)=true from decide_eq_true (by omega)];rfl
 ·rename_i h
  rw[Bool.not_eq_true] at h
  rw[h];rfl
noncomputable def ie9 (l:List Pln) (a c:Nat):Bool:=l.any fun r=>dot (f0 (gL tP l a).n (gL tP l c).n) r.n != 0
noncomputable def vtx (l:List Pln):Bool:=(List.range l.length).any fun a=>(List.range a).any (ie9 l a)
theorem je0 {p q:Pln} (hp:Bd p) (hq:Bd q):ca5 p.n q.n=f0 p.n q.n∧Sm 42467328 (f0 p.n q.n).x∧Sm 42467328 (f0 p.n q.n).y∧Sm 42467328 (f0 p.n q.n).z:=by
 obtain⟨k1,k2,k3⟩:=Hd0 hp.n hq.n
 refine⟨?_,k1,k2,k3⟩
 rw[Ge7,Hb7 (k1.mono (by omega)),Hb7 (k2.mono (by omega)),Hb7 (k3.mono (by omega))]
theorem Ud0 (l : List Pln) (hF : ∀ p ∈ l, okp p = true) (hl : l.length ≤ 1000000) (a : Nat) (ha : a < l.length) (x9 x10 : Int) :
  ∃ j,lp (da3 ⟨l,l,x9,x10,a,(fun k=>(fun k=>tP.row (gL tP l k)) (0+k)),(a:Int),(gL tP l a).n.x,(gL tP l a).n.y,(gL tP l a).n.z,(gL tP l a).b⟩) ⟨0⟩=(if (List.range a).any (ie9 l a) then 1 else 2,⟨((j:Nat):Int)⟩) :=
 Ib3 (step:=da3 ⟨l,l,x9,x10,a,(fun k=>(fun k=>tP.row (gL tP l k)) (0+k)),(a:Int),(gL tP l a).n.x,(gL tP l a).n.y,(gL tP l a).n.z,(gL tP l a).b⟩) (mk:=fun j=>(⟨(j:Int)⟩:Q6)) a (ie9 l a) 1 2 (by omega)
  (fun j hj=>by
   obtain⟨e,k1,k2,k3⟩:=je0 (Td9 hF ha) (Td9 hF (show j < l.length by omega))
   have rr:(⟨toI (hdA (tP.row (gL tP l j))),toI (hdA (tlA (tP.row (gL tP l j)))),toI (hdA (tlA (tlA (tP.row (gL tP l j)))))⟩:V3)=(gL tP l j).n:=rfl
   have e':ca5 ⟨(gL tP l a).n.x,(gL tP l a).n.y,(gL tP l a).n.z⟩ (gL tP l j).n=f0 (gL tP l a).n (gL tP l j).n:=e
   simp only[da3,ia7,Int.toNat_natCast,Nat.zero_add,rr,e',Ve7,j8,j7,Je8 l _ ⟨k1,k2,k3⟩ hF (show l.length≤1000000000 by omega),o6 hj (show a≤4611686018427387904 by omega)]
   rw[btD (i8 hj),bt (f7 hj)]
   unfold ie9
   cases hz:((f0 (gL tP l a).n (gL tP l j).n).x==0&&((f0 (gL tP l a).n (gL tP l j).n).y==0&&((f0 (gL tP l a).n (gL tP l j).n).z==0&&true))) with
   | false=>rfl
   | true =>
    simp only[Bool.and_true,Bool.and_eq_true,beq_iff_eq] at hz
    have:(l.any fun r=>dot (f0 (gL tP l a).n (gL tP l j).n) r.n != 0)=false:=by
     rw[List.any_eq_false]
     intro r _
     have:dot (f0 (gL tP l a).n (gL tP l j).n) r.n=0:=by unfold dot;rw[hz.1,hz.2.1,hz.2.2];simp only[Int.zero_mul,Int.add_zero]
     rw[this]
     decide
    rw[this]
    rfl)
  (by simp only[da3,ia7];rw[bfD (i7 (Nat.lt_irrefl _))])
theorem md8 (l:List Pln) (hF:∀ p∈l,okp p=true) (hl:l.length≤1000000):Ba7 l=some (b (vtx l),[]):=by
 obtain⟨j,h⟩:=Ib3 (step:=da4 ⟨(l.length:Int)⟩) (mk:=fun j=>(⟨l,l,(j:Int)⟩:Q7)) l.length (fun a=>(List.range a).any (ie9 l a)) 1 2 (by omega)
  (fun j hj=>by
   obtain⟨j',h1⟩:=Ud0 l hF hl j hj (l.length:Int) (j:Int)
   simp only[da4,ia8,j8,j7,Int.toNat_natCast,Nat.sub_zero,o6 hj (show l.length≤4611686018427387904 by omega)]
   rw[btD (i8 hj),bt (f7 hj),bt (f7 (show j < l.length+1 by omega)),h1]
   cases (List.range j).any (ie9 l j)<;>rfl)
  (by simp only[da4,ia8];rw[bfD (i7 (Nat.lt_irrefl _))])
 have h:lp (da4 ⟨(l.length:Int)⟩) ⟨l,l,0⟩=(if vtx l then 1 else 2,⟨l,l,((j:Nat):Int)⟩):=h
 unfold Ba7
 simp only[j8,j7]
 rw[h]
 cases vtx l<;>rfl
theorem Jd4 (l:List Pln) (hF:∀ p∈l,okp p=true) (hl:l.length≤1000000):sa5 l=vtx l:=by unfold sa5;rw[md8 l hF hl];rfl
theorem Jd5 (l:List Pln) (hF:∀ p∈l,okp p=true) (hl:l.length≤1000000):sa6 l=true:=by unfold sa6;rw[md8 l hF hl];rfl
theorem Je9 (l:List Pln):vtx l=true↔∃ p q s,p∈l∧q∈l∧s∈l∧mw p q s≠0:=by
 unfold vtx
 rw[List.any_eq_true]
 constructor
 ·rintro⟨a,ha,h⟩
  obtain⟨c,hc,h⟩:=List.any_eq_true.1 h
  rw[List.mem_range] at ha hc
  obtain⟨r,hr,h⟩:=List.any_eq_true.1 h
  have h:dot (f0 (gL tP l a).n (gL tP l c).n) r.n≠0:=bne_iff_ne.1 h
  exact⟨_,_,r,Pa5 tP ha,Pa5 tP (show c < l.length by omega),hr,fun e=>h (by rw[← e];simp only[mw,dot,f0];grind)⟩
 ·rintro⟨p,q,s,hp,hq,hs,hw⟩
  obtain⟨i',hi,rfl⟩:=List.mem_iff_getElem.1 hp
  obtain⟨j',hj,rfl⟩:=List.mem_iff_getElem.1 hq
  have hne:i'≠j':=fun e=>hw (by subst e;simp only[mw,dot,f0];grind)
  rw[← kb7 tP hi,← kb7 tP hj] at hw
  rcases Nat.lt_or_gt_of_ne hne with h | h
  ·refine⟨j',List.mem_range.2 hj,List.any_eq_true.2 ⟨i',List.mem_range.2 h,List.any_eq_true.2 ⟨s,hs,?_⟩⟩⟩
   have:dot (f0 (gL tP l j').n (gL tP l i').n) s.n≠0:=fun e=>hw (by
    rw[show mw (gL tP l i') (gL tP l j') s=-dot (f0 (gL tP l j').n (gL tP l i').n) s.n from by simp only[mw,dot,f0];grind,e]
    rfl)
   exact bne_iff_ne.2 this
  ·refine⟨i',List.mem_range.2 hi,List.any_eq_true.2 ⟨j',List.mem_range.2 h,List.any_eq_true.2 ⟨s,hs,?_⟩⟩⟩
   have:dot (f0 (gL tP l i').n (gL tP l j').n) s.n≠0:=fun e=>hw (by rw[← e];simp only[mw,dot,f0];grind)
   exact bne_iff_ne.2 this
structure OkF (F:List Pln):Prop where
 l:F.length≤1000000
 v:∀ p∈F,okp p=true
noncomputable def own (F:List Pln) (v:V3):List Pln:=F.filter fun p=>U9 p v==0
noncomputable def kv (F:List Pln) (v:V3):Bool:=vtx (own F v)
theorem je1 (F:List Pln) (v:V3) (hF:F.length≤1000000):∃ j,lp (ma3 ⟨F,(F.length:Int),F,v.x,v.y,v.z⟩) ⟨0,0,0,[]⟩=(phP (own F v)+1,⟨phP (own F v),((j:Nat):Int),(own F v).length,bL tP (own F v)⟩):=by
 have key:=F5 (step:=ma3 ⟨F,(F.length:Int),F,v.x,v.y,v.z⟩) (mk:=fun j (o:List Pln)=>(⟨phP o,(j:Int),o.length,bL tP o⟩:o3)) F.length (fun j o=>j≤F.length∧o=(F.take j).filter fun p=>U9 p v==0) (fun t s=>t=phP (own F v)+1∧∃ j:Nat,s=⟨phP (own F v),(j:Int),(own F v).length,bL tP (own F v)⟩) (by omega)
  (fun j o hj hi=>by
   obtain⟨_,hi⟩:=hi
   have hlen:o.length≤1000000:=by
    rw[hi]
    have h1:=List.length_filter_le (fun p=>U9 p v==0) (F.take j)
    have h2:=List.length_take_le j F
    omega
   have hn:=o6 hj (show F.length≤4611686018427387904 by omega)
   have hb:=f7 hj
   have hT:(F.take (j+1)).filter (fun p=>U9 p v==0)=o++(if (U9 (gL tP F j) v==0)=true then [gL tP F j] else []):=by
    rw[za0 tP hj,List.filter_append,← hi,List.filter_cons,List.filter_nil]
   have hnext : ∀ {s : o3} {o' : List Pln}, o' = (F.take (j + 1)).filter (fun p => U9 p v == 0) → s = ⟨phP o', ((j + 1 : Nat) : Int), o'.length, bL tP o'⟩ → Nx (.next s) (fun t => t = phP (own F v) + 1 ∧ ∃ j' : Nat, (⟨phP o, (j : Int), o.length, bL tP o⟩ : o3) = ⟨phP (own F v), (j' : Int), (own F v).length, bL tP (own F v)⟩)
     (fun s=>∃ o',s=(⟨phP o',((j+1:Nat):Int),o'.length,bL tP o'⟩:o3)∧(j+1≤F.length∧o'=(F.take (j+1)).filter fun p=>U9 p v==0)):=fun {s o'} ho' hs=>.nx ⟨o',hs,by omega,ho'⟩
   clear hi
   cases o with
   | nil =>
    show Nx (G7 Stp.next Stp.exit Stp.fail _ _) _ _
    simp only[G7,Int.toNat_natCast,Hc5,Hc6,hn,hb]
    rw[btD (i8 hj)]
    cases hs:U9 (gL tP F j) v==0 with
    | true=>exact hnext (o':=[gL tP F j]) (by rw[hT,hs];rfl) rfl
    | false=>exact hnext (o':=[]) (by rw[hT,hs];rfl) rfl
   | cons q o =>
    have rr:(Nat.beq (q::o).length (len (bL tP (q::o)))&&Nat.ble (((q::o).length+1)*32) room)=true:=sb6 rfl (by omega)
    have ap:∀ (O:List Pln) (p:Pln),app (bL tP O) [[i p.n.x,i p.n.y,i p.n.z,i p.b]]=bL tP (O++[p]):=fun O p=>Fa5 tP O [p]
    show Nx (G8 Stp.next Stp.exit Stp.fail _ _) _ _
    simp only[G8,Int.toNat_natCast,Hc5,Hc6,hn,hb,rr,ap]
    rw[btD (i8 hj)]
    cases hs:U9 (gL tP F j) v==0 with
    | true=>exact hnext (o':=q::o++[gL tP F j]) (by rw[hT,hs];rfl) (by rw[List.length_append];rfl)
    | false=>exact hnext (o':=q::o) (by rw[hT,hs,if_neg (by simp),List.append_nil]) rfl)
  (fun j o hj hi=>by
   obtain⟨h1,hi⟩:=hi
   have e:j=F.length:=by omega
   subst e
   have hO:o=own F v:=by rw[hi,List.take_length];rfl
   rw[← hO]
   cases o with
   | nil =>
    refine⟨1,?_,rfl,F.length,rfl⟩
    show G7 Stp.next Stp.exit Stp.fail _ _=_
    simp only[G7]
    rw[bfD (i7 (Nat.lt_irrefl _))]
   | cons q o =>
    refine⟨2,?_,rfl,F.length,rfl⟩
    show G8 Stp.next Stp.exit Stp.fail _ _=_
    simp only[G8]
    rw[bfD (i7 (Nat.lt_irrefl _))]) 0 [] ⟨Nat.zero_le _,by simp⟩
 obtain⟨t,s,h1,rfl,j,rfl⟩:=key
 exact⟨j,h1⟩
theorem vd8 (v:V3) (F:List Pln) (hF:OkF F):T5 ⟨v.x,v.y,v.z,F⟩=⟨1,!kv F v,F⟩:=by
 obtain⟨j,h⟩:=je1 F v hF.l
 have hv:∀ p∈own F v,okp p=true:=fun p hp=>hF.v p (List.mem_filter.1 hp).1
 have hl:(own F v).length≤1000000:=Nat.le_trans (List.length_filter_le _ _) hF.l
 unfold T5 da5 kv
 simp only[j8,j7]
 rw[h]
 cases ho:own F v with
 | nil =>
  have e:sa5 []=vtx []:=Jd4 [] (fun p hp=>by cases hp) (by simp)
  have e':sa6 []=true:=Jd5 [] (fun p hp=>by cases hp) (by simp)
  rw[e,e']
  rfl
 | cons q o =>
  rw[ho] at hv hl
  simp only[cb7,mb3,Jd4 _ hv hl,Jd5 _ hv hl]
  rfl
theorem Qe0 {α:Type} {l:List α} {n:Nat} {c:α→Bool} (h:(l.take n).any c=true):(l.take n).findIdx c < (l.take n).length:=by
 rw[List.any_eq_true] at h
 obtain⟨p,hp,hc⟩:=h
 exact List.findIdx_lt_length_of_exists ⟨p,hp,hc⟩
theorem Ke0 (l:List V3) (n:Nat) (X:List Pln) (hn:n≤l.length) (hl:l.length≤1000000000) (hX:OkF X):Y9 ⟨n,bL tV l,X⟩=⟨1,if (l.take n).any (fun p=>!kv X p) then (((l.take n).findIdx (fun p=>!kv X p):Nat):Int) else -1,X⟩:=by
 have hlen:(l.take n).length=n:=by rw[List.length_take];omega
 have h:=Ka6 (step:=G9 ⟨n,(n:Int),bL tV l⟩) (mk:=fun j=>(⟨(j:Int),X⟩:q7)) (c:=fun p=>!kv X p) (u:=1) (fin:=2) tV (l.take n) (by omega)
  (fun j hj=>by
   rw[hlen] at hj
   have hj':j < l.length:=by omega
   simp only[G9,E3,Int.toNat_natCast,j8,j7,Wb5 hj',Ib5 hj',vd8 _ _ hX,Uc0 tV l hj,o6 hj (show n≤4611686018427387904 by omega)]
   rw[btD (i8 hj),bt (f7 hj)]
   rfl)
  (by rw[hlen];simp only[G9,E3];rw[bfD (i7 (Nat.lt_irrefl _))]) 0 (Nat.zero_le _)
 rw[List.drop_zero,hlen] at h
 unfold Y9 E9
 simp only[j8,j7]
 rw[show (⟨0,X⟩:q7)=⟨((0:Nat):Int),X⟩ from rfl,h]
 cases ha:(l.take n).any fun p=>!kv X p with
 | false=>rfl
 | true =>
  have hf:=Qe0 ha
  rw[hlen] at hf
  simp only[if_true,Nat.zero_add,Int.toNat_natCast,Ib5 (show (l.take n).findIdx (fun p=>!kv X p) < l.length by omega),vd8 _ _ hX,j8]
  rfl
structure Ke1 (l:List V3) (n:Nat) (f:V3→Bool) (cur:List V3) (m j:Nat):Prop where
 len:cur.length=l.length
 t:cur.take m=(l.take j).filter f
 d:cur.drop j=l.drop j
 le:m≤j
 lm:m≤n
theorem vd9 (l : List V3) (n : Nat) (hnl : n ≤ l.length) (X : List Pln) (hl : l.length ≤ 1000000000) (hX : OkF X) (m j : Nat) (cur : List V3) (hd : Ke1 l n (kv X) cur m j) (hjn : j ≤ n) :
  ∃ t s,lp (B7 ⟨n⟩) ⟨(m:Int),(j:Int),bL tV cur,X⟩=(t,s)∧(t=1∧∃ m' cur',s=⟨((m':Nat):Int),((n:Nat):Int),bL tV cur',X⟩∧Ke1 l n (kv X) cur' m' n):=by
 refine F5 (step:=B7 ⟨n⟩) (mk:=fun j (x:Nat×List V3)=>(⟨(x.1:Int),(j:Int),bL tV x.2,X⟩:u8)) n (fun j x=>Ke1 l n (kv X) x.2 x.1 j∧j≤n) (fun t s=>t=1∧∃ m' cur',s=⟨((m':Nat):Int),((n:Nat):Int),bL tV cur',X⟩∧Ke1 l n (kv X) cur' m' n) (by omega) (fun j x hj hx=>?_) (fun j x hj hx=>?_) j (m,cur) ⟨hd,hjn⟩
 ·obtain⟨m,cur⟩:=x
  obtain⟨⟨h1,h2,h3,h4,h5⟩,_⟩:=hx
  simp only at h1 h2 h3 h4 h5
  have hjc:j < cur.length:=by omega
  have hmc:m < cur.length:=by omega
  have hg:gL tV cur j=gL tV l j:=qc2 tV h3
  have hWm:W ((m:Int)+1)=((m+1:Nat):Int):=by rw[ka8 (by omega) (by omega)];omega
  have hb:Nat.blt m cur.length=true:=by rw[Nat.blt_eq];exact hmc
  have hrow:e8 (bL tV cur) m=tV.row (gL tV cur m):=da1 tV hmc
  have sp:∀ (v:V3) (x1 x2 x3:Int),S4 (tV.row v) 0 [i x1,i x2,i x3]=tV.row ⟨x1,x2,x3⟩:=fun _ _ _ _=>rfl
  have rl:∀ v:V3,Nat.ble (0+3) (len (tV.row v))=true:=fun _=>rfl
  simp only[B7,E4,Int.toNat_natCast,j8,j7,Wb5 hjc,Ib5 hjc,vd8 _ _ hX,o6 hj (show n≤4611686018427387904 by omega),hWm]
  rw[btD (i8 hj),bt (f7 hj)]
  simp only[Nat.zero_add,hrow,ga2,hb,sp,Db8,f7 (show m < n by omega),hg]
  have ht:=za0 tV (show j < l.length by omega)
  have hd1:cur.drop (j+1)=l.drop (j+1):=fc5 h3 1
  cases hk:kv X (gL tV l j) with
  | true =>
   refine .nx ⟨(m+1,cur.set m (gL tV l j)),rfl,⟨by rw[List.length_set];exact h1,?_,?_,by omega,by show m+1≤n;omega⟩,by omega⟩
   ·show (cur.set m (gL tV l j)).take (m+1)=_
    rw[ht,List.filter_append,List.take_succ_eq_append_getElem (by rw[List.length_set];exact hmc),List.getElem_set_self,List.take_set_of_le (Nat.le_refl _),h2,List.filter_cons,hk,if_pos rfl,List.filter_nil]
   ·show (cur.set m (gL tV l j)).drop (j+1)=_
    rw[List.drop_set_of_lt (by omega),hd1]
  | false =>
   refine .nx ⟨(m,cur),rfl,⟨h1,?_,hd1,by omega,h5⟩,by omega⟩
   show cur.take m=_
   rw[ht,List.filter_append,h2,List.filter_cons,hk,if_neg (by simp),List.filter_nil,List.append_nil]
 ·obtain⟨m,cur⟩:=x
  obtain⟨hx,hjn⟩:=hx
  have e:j=n:=by omega
  subst e
  refine⟨1,?_,rfl,m,cur,rfl,hx⟩
  simp only[B7,E4]
  rw[bfD (by omega)]
theorem Ud1 (l : List V3) (n : Nat) (hnl : n ≤ l.length) (X : List Pln) (hl : l.length ≤ 1000000000) (hX : OkF X) :
  ∃ m r,Z2 ⟨n,bL tV l,X⟩=⟨1,m,bL tV r,X⟩∧m≤r.length∧r.take m=(l.take n).filter (kv X):=by
 have hlen:(l.take n).length=n:=by rw[List.length_take];omega
 unfold Z2 F4
 simp only[j8,j7,Ke0 l n X hnl hl hX]
 cases ha:(l.take n).any fun p=>!kv X p with
 | false =>
  refine⟨n,l,rfl,hnl,?_⟩
  symm
  rw[List.filter_eq_self]
  intro p hp
  have:=List.any_eq_false.1 ha p hp
  simpa using this
 | true =>
  have hf:=Qe0 ha
  have hk:kv X (gL tV (l.take n) ((l.take n).findIdx fun p=>!kv X p))=false:=by
   have:=List.findIdx_getElem (xs:=l.take n) (p:=fun p=>!kv X p) (w:=hf)
   rw[kb7 tV hf]
   simpa using this
  have ht:=fc4 (fun p=>!kv X p) (l.take n)
  simp only[Bool.not_not] at ht
  generalize hF:(l.take n).findIdx (fun p=>!kv X p)=F at *
  rw[hlen] at hf
  rw[Uc0 tV l hf] at hk
  rw[List.take_take,Nat.min_eq_left (by omega)] at ht
  have hW:W ((F:Int)+1)=((F+1:Nat):Int):=o6 hf (by omega)
  have hne:((F:Int)==-1)=false:=by rw[beq_eq_false_iff_ne];omega
  obtain⟨t,s,e1,rfl,m,cur,e2,e3⟩:=vd9 l n hnl X hl hX F (F+1) l ⟨rfl,by rw[za0 tV (show F < l.length by omega),List.filter_append,ht,List.filter_cons,hk,if_neg (by simp),List.filter_nil,List.append_nil],rfl,by omega,by omega⟩ (by omega)
  have hm:m≤n:=e3.lm
  have hin:inB (m:Int) (n+1)=true:=f7 (by omega)
  simp only[if_true,hW,hne,e1,e2,Int.toNat_natCast,hin,Nat.zero_add,Nat.sub_zero]
  refine⟨m,cur.take m++(List.replicate (n - m) ⟨0,0,0⟩++cur.drop (m+(n - m))),?_,?_,?_⟩
  ·rw[Id6,Id7,Tc9,Fa5,Fa5]
   rfl
  ·rw[List.length_append,List.length_append,List.length_take,List.length_replicate,e3.len];omega
  ·rw[List.take_append_of_le_length (by rw[List.length_take,e3.len];omega),List.take_take,Nat.min_self,e3.t]
noncomputable def Wb8 (F:List Pln) (l:List V3):List V3:=(dis l).filter (kv F)
theorem wd0 (a:V3) (l:List V3) (hl:l.length≤1000000):∃ m r,ya7 (a,l)=⟨1,m,bL tV r⟩∧m≤r.length∧r.take m=dis (a::l)∧r.length≤1000000000:=by
 obtain⟨m,r,k1,k2,k3,k4⟩:=gc7 a l hl
 have hok:okL tV (l.length+1) (fun k=>tV.row (gL tV (a::l) k))=true:=Va2 tV (f:=fun k=>gL tV (a::l) k) fun _ _=>rfl
 have hr:=Id9 (a::l) (by simp only[List.length_cons];omega) []
 rw[List.append_nil] at hr
 unfold ya7 da6
 simp only[Xd5,Xd6,md2 a l hl,hok,k1,q8,Nat.beq_refl,hr]
 exact⟨m,r,rfl,k2,k3,by omega⟩
end Go.Ev.Ce
namespace Go.Ev.Ce
open Go Go.Ev Go.Ev.L Go.Proofs Go.Sort
theorem je2 (l:List V3) (a c k:Nat) (s:List Pln) (p:Pln):p∈Sb5 l a c s k↔p∈s∨((D7 (gL tV l k) (gL tV l c) (gL tV l a)).2=true∧(p=(D7 (gL tV l k) (gL tV l c) (gL tV l a)).1∨p=oa1 (D7 (gL tV l k) (gL tV l c) (gL tV l a)).1)):=by
 unfold Sb5
 generalize D7 (gL tV l k) (gL tV l c) (gL tV l a)=T
 cases h2:T.2 with
 | false=>simp
 | true=>simp only[if_true,we9,true_and,or_assoc]
theorem Ye1 (l:List V3) (p:Pln):p∈G0 l↔∃ a,a < l.length∧∃ c,c < a∧∃ k,k < c∧((D7 (gL tV l k) (gL tV l c) (gL tV l a)).2=true∧(p=(D7 (gL tV l k) (gL tV l c) (gL tV l a)).1∨p=oa1 (D7 (gL tV l k) (gL tV l c) (gL tV l a)).1)):=by
 have h:p∈G0 l↔p∈[]∨_:=gb8 (fun o a p=>gb8 (fun o c p=>gb8 (fun o k p=>je2 l a c k o p) o p c) o p a) [] p l.length
 rw[h]
 simp only[List.not_mem_nil,false_or]
theorem wd1 {f:List Pln→Nat→List Pln} (h:∀ o k,o.Nodup→(f o k).Nodup) {o:List Pln} (ho:o.Nodup):∀ n,((List.range n).foldl f o).Nodup
 | 0=>ho
 | n+1=>by rw[r4];exact h _ _ (wd1 h ho n)
theorem xe1 (l:List V3):(G0 l).Nodup:=wd1 (fun o a ho=>wd1 (fun o c ho=>wd1 (fun o k ho=>by
 show (Sb5 l a c o k).Nodup
 unfold Sb5
 split
 ·exact Uc3 (Uc3 ho)
 ·exact ho) ho c) ho a) List.nodup_nil l.length
theorem Ke2 {l:List V3} (hl:l.all inV=true) (p:Pln):p∈fil l (G0 l)↔Id5 l p:=by
 have hin:=List.all_eq_true.1 hl
 have hb:(!bey l p)=hold p l:=rfl
 unfold fil
 rw[List.mem_filter,Ye1,hb]
 constructor
 ·rintro⟨⟨a,ha,c,hc,k,hk,h1,h2⟩,h3⟩
  have ma:=gLm ha
  have mc:=gLm (show c < l.length by omega)
  have mk:=gLm (show k < l.length by omega)
  have ht:=(Ea8 h1).2
  rcases h2 with rfl | rfl
  ·exact vd0 mk mc ma ht ((sb5 ht.ok hl).1 h3)
  ·exact Tc8 mk mc ma ht ((sb5 (gc1 ht.ok) hl).1 h3)
 ·intro h
  obtain⟨u,w,x,hu,hw,hx,h3,t1,t2,t3⟩:=h.on
  obtain⟨a,ha,c,hc,k,hk,hn,hall⟩:=Ie4 hu hw hx h3
  obtain⟨i1,i2,i3⟩:=hall (fun v=>inV v=true) (hin u hu) (hin w hw) (hin x hx)
  obtain⟨e1,e2,e3⟩:=hall (fun v=>dot p.n v=p.b) t1 t2 t3
  have h2:=Ib4 i3 i2 i1 (ve8 hn).2.2.1
  exact⟨⟨a,ha,c,hc,k,hk,h2,Id4 (Ea8 h2).2 h.ok e3 e2 e1⟩,(sb5 h.ok hl).2 h.hd⟩
theorem md9 {l r:List V3} (h:∀ v,v∈r↔v∈l) {p:Pln} (hp:Id5 l p):Id5 r p:=by
 obtain⟨⟨hd,u,w,x,hu,hw,hx,e⟩,ok⟩:=hp
 exact⟨⟨fun v hv=>hd v ((h v).1 hv),u,w,x,(h u).2 hu,(h w).2 hw,(h x).2 hx,e⟩,ok⟩
theorem Ud2 {l:List Pln} (h:l.Nodup):Xa9 (Qb8 l):=by
 have h1:=ud3 l
 have h2:(Qb8 l).Nodup:=(Tc2 l).nodup_iff.2 h
 have h3:=h1.and h2
 refine h3.imp fun {x y} ⟨k1,k2⟩=>?_
 rw[Oa6] at k1
 have k1:¬ LtP y x:=by simpa using k1
 rcases ae1 x y with h | h | h
 ·exact h
 ·exact absurd h k2
 ·exact absurd h k1
theorem Ke3 {l:List V3} (hl:l.all inV=true):(dis l).all inV=true:=List.all_eq_true.2 fun v hv=>List.all_eq_true.1 hl v ((Nb3 l v).1 hv)
theorem Jd6 {l:List V3} (hl:l.all inV=true):Qb8 (fil (dis l) (G0 (dis l)))=F0 l:=by
 refine ld8 (Ud2 ((xe1 (dis l)).filter _)) (Xe3 l) fun p=>?_
 rw[(Tc2 _).mem_iff,Ke2 (Ke3 hl),ae7 hl]
 exact⟨md9 fun v=>(Nb3 l v).symm,md9 (Nb3 l)⟩
theorem hf5 {l:List V3} (hl:l.all inV=true) (h4:Sol l):F0 l≠[]:=fun e=>by
 have h:=ie5 h4 (Ie6 hl (c:=[]) fun p hp=>by rw[← ae7 hl,e] at hp;exact hp) (x:=⟨100,0,0,1⟩) ⟨by show (0:Int) < 1;omega,fun p hp=>by cases hp⟩ (h:=⟨⟨1,0,0⟩,24⟩) fun v hv=>by
  obtain⟨⟨a1,a2⟩,_,_⟩:=(xb2 v).1 (List.all_eq_true.1 hl v hv)
  simp only[dot]
  omega
 simp only[rmZ] at h
 omega
theorem nd0 {l:List V3} (h48:l.length≤48) (hl:l.all inV=true) (h4:Sol l):za8 l=0:=by
 have hin:=List.all_eq_true.1 hl
 unfold za8
 rw[if_neg (by omega),if_neg (by rw[← List.not_all_eq_any_not,hl];simp)]
 have h1:(ixs l.length).any (sp1 l)=true:=by
  obtain⟨a,c,k,v,ha,hc,hk,hv,hd⟩:=h4
  obtain⟨i',hi,j',hj,k',hk',hn,hall⟩:=Ie4 ha hc hk (Tc7 hd)
  obtain⟨i1,i2,i3⟩:=hall (fun v=>inV v=true) (hin _ ha) (hin _ hc) (hin _ hk)
  have ht:=Ib4 i3 i2 i1 (ve8 hn).2.2.1
  have mem:∀ {n m:Nat},m < n→((m:Nat):Int)∈ixs n:=fun {n m} h=>List.mem_map.2 ⟨m,List.mem_range.2 h,rfl⟩
  refine List.any_eq_true.2 ⟨_,mem hi,?_⟩
  unfold sp1
  rw[Int.toNat_natCast]
  refine List.any_eq_true.2 ⟨_,mem hj,?_⟩
  unfold sp2
  rw[Int.toNat_natCast]
  refine List.any_eq_true.2 ⟨gL tV l k',?_,ht⟩
  rw[← Uc0 tV l hk']
  exact Pa5 tV (by rw[List.length_take];omega)
 have h2:Ib6 l=false:=by
  unfold Ib6
  rw[if_pos h1]
  obtain⟨hi,k1⟩:=Nb4 h1
  have k1:(ixs (iF l)).any (sp2 l (iF l))=true:=k1
  obtain⟨hj,k2⟩:=Nb4 k1
  have k2:(l.take (jF l)).any (fun v=>(D7 v (gL tV l (jF l)) (gL tV l (iF l))).2)=true:=k2
  have hj:jF l < iF l:=hj
  have hi:iF l < l.length:=hi
  have hk:=vd3 k2
  have hk2:=List.findIdx_getElem (xs:=l.take (jF l)) (p:=fun v=>(D7 v (gL tV l (jF l)) (gL tV l (iF l))).2) (w:=hk)
  rw[← kb7 tV hk,Uc0 tV l (by rw[List.length_take] at hk;omega)] at hk2
  have hok:okp (plF l)=true:=(Ea8 hk2).2.ok
  obtain⟨v,hv,hne⟩:=h4.off (ae5 hok) (plF l).b
  rw[Bool.not_eq_false',List.any_eq_true]
  refine⟨v,hv,?_⟩
  have:U9 (plF l) v≠0:=fun e=>hne ((Mb9 hok (hin v hv)).1 e)
  simpa using this
 rw[h2]
 rfl
theorem Ke4 (l r:List Pln) (n:Nat) (hn:n=l.length):(two (r1L tP) r1I).rd (.tup [.sl 0 0 n 0,i 0],[⟨73,4,bL tP (l++r),true,false,0⟩])=some (l,0):=by
 subst hn
 have h:(r1L tP).rd [⟨73,4,bL tP (l++r),true,false,0⟩] (.sl 0 0 l.length 0)=some l:=by
  show Bool.rec (motive:=fun _=>Option (List Pln)) none (some (slR tP (bL tP (l++r)) 0 l.length)) (Bool.and true (okS tP (bL tP (l++r)) 0 l.length))=_
  rw[ue0 _ _ (by rw[List.length_append];omega),ue1 _ _ (by rw[List.length_append];omega),List.take_left']
  ·rfl
  ·rfl
 simp only[two,h]
 rfl
theorem je3 (a:V3) (l:List V3) (h48:(a::l).length≤48) (hl:(a::l).all inV=true) (h4:Sol (a::l)):Rd (two (r1L tP) r1I) (pa1 (a,l)) (fun r=>r=(F0 (a::l),0)):=by
 have hc:=nd0 h48 hl h4
 have hdl:=vd2 (a::l)
 have hll:l.length≤1000000:=by simp only[List.length_cons] at h48;omega
 obtain⟨j,e⟩:=Ye0 (dis (a::l)) (by omega)
 have hf:=Jd6 hl
 have hne:fil (dis (a::l)) (G0 (dis (a::l)))≠[]:=fun e=>by
  rw[e] at hf
  have h0:Qb8 []=[]:=ie0
  rw[h0] at hf
  exact hf5 hl h4 hf.symm
 have hok:okL tV (l.length+1) (fun k=>tV.row (gL tV (a::l) k))=true:=Va2 tV (f:=fun k=>gL tV (a::l) k) fun _ _=>rfl
 have hlen:(fil (dis (a::l)) (G0 (dis (a::l)))).length≤1000000:=by
  have h1:=vd5 (dis (a::l)) (G0 (dis (a::l)))
  have h2:(G0 (dis (a::l))).length≤_:=vd6 (dis (a::l)) (by omega) _ (Nat.le_refl _)
  omega
 unfold pa1
 simp only[j8,N6,j7,Xd5,Xd6,hok,Uc2 (a::l) (by omega),Uc1 (a::l) (by omega),hc,Td5 a l hll,Td6 a l hll,e]
 generalize fil (dis (a::l)) (G0 (dis (a::l)))=O at *
 cases O with
 | nil=>exact absurd rfl hne
 | cons q o =>
  have hr:(Bool.and (Nat.ble (q::o).length room) (Bool.and (Nat.ble (q::o).length (len (bL tP (q::o)))) (okS tP (bL tP (q::o)) 0 (q::o).length)))=true:=by
   rw[mb3,ga2,Bool.and_eq_true,Bool.and_eq_true,Nat.ble_eq,Nat.ble_eq]
   refine⟨by unfold room;omega,Nat.le_refl _,rfl⟩
  simp only[phP,hr,cb7,He1,Fa5,hf]
  exact⟨_,(F0 (a::l),0),rfl,Ke4 _ _ _ (by rw[← hf,Mb4]),rfl⟩
end Go.Ev.Ce
namespace Go.Ev.Ce
open Go Go.Ev Go.Ev.L Go.Proofs
structure B8 (v:V3):Prop where
 x:Sm 8 v.x
 y:Sm 8 v.y
 z:Sm 8 v.z
structure Mp (l:List V3):Prop where
 l4:4≤l.length
 l8:l.length≤8
 bd:∀ v∈l,Sm 11 v.x∧Sm 11 v.y∧Sm 11 v.z
 nf:nf0 l=true
theorem Mp.inV {l:List V3} (h:Mp l):l.all inV=true:=List.all_eq_true.2 fun v hv=>by
 obtain⟨h1,h2,h3⟩:=h.bd v hv
 exact (xb2 v).2 ⟨h1.mono (by omega),h2.mono (by omega),h3.mono (by omega)⟩
theorem hf6 {l:List V3} (hl:l.all Ce.inV=true) (h4:Sol l):nf0 l=true:=by
 have hin:=List.all_eq_true.1 hl
 obtain⟨a,c,k,v,ha,hc,hk,hv,hd⟩:=h4
 obtain⟨i',hi,j',hj,k',hk',hn,hall⟩:=Ie4 ha hc hk (Tc7 hd)
 obtain⟨i1,i2,i3⟩:=hall (fun v=>Ce.inV v=true) (hin _ ha) (hin _ hc) (hin _ hk)
 have ht:=Ib4 i1 i2 i3 hn
 refine List.any_eq_true.2 ⟨i',List.mem_range.2 hi,List.any_eq_true.2 ⟨j',List.mem_range.2 hj,List.any_eq_true.2 ⟨k',List.mem_range.2 hk',?_⟩⟩⟩
 unfold nf ie1
 rw[ht,Bool.true_and,List.any_eq_true]
 have hok:=(Ea8 ht).2.ok
 obtain⟨w,hw,hne⟩:=Sol.off ⟨a,c,k,v,ha,hc,hk,hv,hd⟩ (ae5 hok) (D7 (gL tV l i') (gL tV l j') (gL tV l k')).1.b
 refine⟨w,hw,?_⟩
 have:U9 (D7 (gL tV l i') (gL tV l j') (gL tV l k')).1 w≠0:=fun e=>hne ((Mb9 hok (hin w hw)).1 e)
 simpa using this
end Go.Ev.Ce
namespace Go.Ev.Ce
open Go Go.Ev Go.Ev.L Go.Proofs
theorem sb7 {l:List V3} (h:za8 l=0):l.length≤48∧l.all inV=true∧Sol l:=by
 unfold za8 at h
 split at h
 ·cases h
 rename_i h48
 split at h
 ·cases h
 rename_i hin
 split at h
 ·cases h
 rename_i hf
 have hl:l.all inV=true:=by
  rw[List.all_eq_true]
  intro v hv
  cases hi:inV v with
  | true=>rfl
  | false=>exact absurd (List.any_eq_true.2 ⟨v,hv,by rw[hi];rfl⟩) hin
 have hin2:=List.all_eq_true.1 hl
 refine⟨by omega,hl,?_⟩
 have hf:Ib6 l=false:=Bool.eq_false_iff.2 hf
 unfold Ib6 at hf
 split at hf
 ·rename_i h1
  obtain⟨hi,k1⟩:=Nb4 h1
  have k1:(ixs (iF l)).any (sp2 l (iF l))=true:=k1
  obtain⟨hj,k2⟩:=Nb4 k1
  have k2:(l.take (jF l)).any (fun v=>(D7 v (gL tV l (jF l)) (gL tV l (iF l))).2)=true:=k2
  have hj:jF l < iF l:=hj
  have hi:iF l < l.length:=hi
  have hk:=vd3 k2
  have hk2:=List.findIdx_getElem (xs:=l.take (jF l)) (p:=fun v=>(D7 v (gL tV l (jF l)) (gL tV l (iF l))).2) (w:=hk)
  rw[List.length_take] at hk
  rw[← kb7 tV (by rw[List.length_take];exact hk),Uc0 tV l (by omega)] at hk2
  have ht:=(Ea8 hk2).2
  rw[Bool.not_eq_false',List.any_eq_true] at hf
  obtain⟨v,hv,hne⟩:=hf
  have hne:U9 (plF l) v≠0:=bne_iff_ne.1 hne
  have ht:Thr (gL tV l (kF l)) (gL tV l (jF l)) (gL tV l (iF l)) (plF l):=ht
  have hkl:kF l < l.length:=by
   have:kF l < min (jF l) l.length:=hk
   omega
  have hoff:dot (plF l).n v≠(plF l).b:=fun e=>hne ((Mb9 ht.ok (hin2 v hv)).2 e)
  refine⟨_,_,_,v,gLm hkl,gLm (show jF l < l.length by omega),gLm hi,hv,fun h0=>hoff ?_⟩
  obtain⟨ok,⟨g,hg,e1,e2,e3⟩,o⟩:=ht
  have e:g*(dot (plF l).n v - (plF l).b)=dot (N3 (gL tV l (kF l)) (gL tV l (jF l)) (gL tV l (iF l))) (X1 v (gL tV l (kF l))):=by
   have e1:g*(plF l).n.x=(N3 (gL tV l (kF l)) (gL tV l (jF l)) (gL tV l (iF l))).x:=e1
   have e2:g*(plF l).n.y=(N3 (gL tV l (kF l)) (gL tV l (jF l)) (gL tV l (iF l))).y:=e2
   have e3:g*(plF l).n.z=(N3 (gL tV l (kF l)) (gL tV l (jF l)) (gL tV l (iF l))).z:=e3
   rw[o]
   simp only[dot]
   rw[← e1,← e2,← e3]
   simp only[X1]
   grind
  rw[h0] at e
  have:=(Int.mul_eq_zero.1 e).resolve_left (by omega)
  omega
 ·cases hf
noncomputable def La7 (l:List V3):List Pln×Int:=if za8 l=0 then (F0 l,0) else ([],za8 l)
noncomputable def Pb3 (l:List V3):List V3×Int:=if za8 l=0 then (Wb8 (F0 l) l,0) else ([],za8 l)
theorem Jd7 {l:List V3} (h48:l.length≤48) (hl:l.all inV=true):(F0 l).length≤1000000:=by
 have h1:=vd5 (dis l) (G0 (dis l))
 have hd:=vd2 l
 have h2:(G0 (dis l)).length≤_:=vd6 (dis l) (by omega) _ (Nat.le_refl _)
 rw[← Jd6 hl,Mb4]
 omega
theorem Uc5 (a:V3) (l:List V3) (hl:l.length≤900000):Rd (two (r1L tP) r1I) (pa1 (a,l)) (fun r=>r=La7 (a::l)):=by
 by_cases h:za8 (a::l)=0
 ·obtain⟨h1,h2,h3⟩:=sb7 h
  unfold La7
  rw[if_pos h]
  exact je3 a l h1 h2 h3
 ·have hll:(a::l).length≤1000000:=by simp only[List.length_cons];omega
  have hne:(za8 (a::l) != 0)=true:=bne_iff_ne.2 h
  unfold La7 pa1
  rw[if_neg h]
  simp only[j8,N6,j7,Uc2 (a::l) hll,Uc1 (a::l) hll,hne,q8]
  exact⟨_,([],za8 (a::l)),rfl,rfl,rfl⟩
theorem Ib7:za8 []=11:=by
 unfold za8 Ib6
 rfl
theorem Ye2 {f:Nat} {A B:Sum} (hA:g9 prog G f A) (hB:g9 prog G f B):g9 prog G f (fun args blks=>match args,blks with
 | [.v (.slice none 0 0)],[]=>A args blks
 | _,_=>B args blks):=by
 intro args blks r out he
 simp only at he
 split at he
 ·exact hA _ _ r out he
 ·exact hB _ _ r out he
theorem xe2:Ra8 ()=La7 []∧Ra9 ()=true:=by
 have h:Ca0 ()=some (.tup [.v (.slice none 0 0),i 11],[]):=by
  unfold Ca0
  simp only[Uc2 [] (by simp),Uc1 [] (by simp),Ib7]
  rfl
 unfold Ra8 Ra9 La7
 rw[h,Ib7]
 exact⟨rfl,rfl⟩
theorem gc8 (a:V3) (l:List V3) (hl:l.length≤900000):Rd (two (r1L tV) r1I) (wa6 (a,l)) (fun r=>r=Pb3 (a::l)):=by
 have hok:okL tV (l.length+1) (fun k=>tV.row (gL tV (a::l) k))=true:=Va2 tV (f:=fun k=>gL tV (a::l) k) fun _ _=>rfl
 have hp:wb9 (a,l)=La7 (a::l):=(Uc5 a l hl).p
 have hq:xb0 (a,l)=true:=(Uc5 a l hl).g
 unfold Pb3
 unfold wa6
 simp only[j8,N6,j7,Xd5,Xd6,hok,hp,hq,q8]
 unfold La7
 by_cases h:za8 (a::l)=0
 ·obtain⟨h1,h2,h3⟩:=sb7 h
  have hF:OkF (F0 (a::l)):=⟨Jd7 h1 h2,fun p hp=>(ve7 hp).ok⟩
  obtain⟨m,r,e1,e2,e3,e4⟩:=wd0 a l (by omega)
  obtain⟨m',r',k1,k2,k3⟩:=Ud1 r m e2 (F0 (a::l)) e4 hF
  rw[if_pos h,if_pos h]
  simp only[e1,k1]
  refine⟨_,(r'.take m',0),rfl,?_,by rw[k3,e3];rfl⟩
  have h:(r1L tV).rd [⟨27,3,bL tV r',true,false,0⟩] (.sl 0 0 m' 0)=some (r'.take m'):=by
   show Bool.rec (motive:=fun _=>Option (List V3)) none (some (slR tV (bL tV r') 0 m')) (Bool.and true (okS tV (bL tV r') 0 m'))=_
   rw[md1 _ _ k2,rc0 _ _ k2]
   rfl
  simp only[two,h]
  rfl
 ·have hne:(za8 (a::l) != 0)=true:=bne_iff_ne.2 h
  rw[if_neg h,if_neg h]
  simp only[hne,q8]
  exact⟨_,([],za8 (a::l)),rfl,rfl,rfl⟩
noncomputable def Ea9 (l:List V3):List V3×Int:=Pb3 l
noncomputable def Fa0 (l:List V3):Bool:=decide (1≤l.length∧l.length≤900000)
noncomputable def zb2:Sum:=V6 (oa4 tV) fun l=>.guard (Fa0 l) (.ret ((two (r1L tV) r1I).enc (Ea9 l),[]))
noncomputable def zb3:Sum:=fun args blks=>match args,blks with
 | [.v (.slice none 0 0)],[]=>zb1 args blks
 | _,_=>zb2 args blks
theorem hf7:Ea5 ()=Pb3 []∧Ea6 ()=true:=by
 have h:qa8 ()=some (.tup [.v (.slice none 0 0),i 11],[]):=by
  unfold qa8
  simp only[xe2.1,xe2.2,La7,Ib7]
  rfl
 unfold Ea5 Ea6 Pb3
 rw[h,Ib7]
 exact⟨rfl,rfl⟩
theorem rc1:g9 prog G 35 zb2:=by
 refine Ve4 (ud0 Bc2 fun a r hr=>?_) (ud0 rb8 fun a r hr=>?_) (ud0 pc1 fun a r hr=>?_)
 ·obtain⟨p,c⟩:=a
  obtain⟨hg,hr⟩:=DT.run_guard_some hr
  have hl:c.length≤900000:=by
   have:=(of_decide_eq_true hg).2
   simp only[List.length_cons] at this
   omega
  have hp:Hb0 (p,c)=Pb3 (p::c):=(gc8 p c hl).p
  have hq:Hb1 (p,c)=true:=(gc8 p c hl).g
  rw[hp,hq]
  exact hr
 ·obtain⟨hg,hr⟩:=DT.run_guard_some hr
  exact absurd (of_decide_eq_true hg).1 (by simp)
 ·obtain⟨hg,hr⟩:=DT.run_guard_some hr
  exact absurd (of_decide_eq_true hg).1 (by simp)
theorem rc2:g9 prog G 35 zb3:=Ye2 rb8 rc1
end Go.Ev.Ce
section
namespace Go.Ev.Ce
open Go Go.Ev Go.Ev.L Go.Proofs
set_option maxRecDepth 100000
structure Fa1 where
 c8:List V3
 q9:List V3
noncomputable def Qa2:List (Nat×Sum):=[(34,uc8)]
theorem gc9:j9 prog G Qa2:=⟨sd0,trivial⟩
structure C6 where
 q9:List V3
 aa8:List V3
 U2:Int
 o9:Int
 xb9:List V3
 yd0:Int
 F6:Int
 F7:Int
 F8:Int
structure o8 where
 ph:Nat
 Ca8:Int
 ns7:Nat
 eh0:List (List b7)
 eh1:List (List b7)
 Ma7:Int
 Ma8:Int
 Ma9:Int
noncomputable def Pb4 (p:C6) (s:o8):St:=⟨(.unk::((eL tV p.q9)::((.fn 34 [])::(ra 4 ((.v (.slice none 0 0))::((.ptr 0 0 0 0)::(.unk::((.ptr 1 0 0 0)::(ra 4 ((eL tV p.aa8)::((i p.U2)::((i p.o9)::(ra 3 ((eL tV p.xb9)::((i p.yd0)::((i s.Ca8)::(ra 20 []))))))))))))))))),[⟨153,0,[],true,false,0⟩,⟨0,3,[[(i p.F6),(i p.F7),(i p.F8)]],true,false,0⟩]⟩
noncomputable def Pb5 (p:C6) (s:o8):St:=⟨(.unk::((eL tV p.q9)::((.fn 34 [])::(ra 4 ((.sl 0 0 s.ns7 0)::((.ptr 1 0 0 0)::(.unk::((.ptr 2 0 0 0)::(ra 4 ((eL tV p.aa8)::((i p.U2)::((i p.o9)::(ra 3 ((eL tV p.xb9)::((i p.yd0)::((i s.Ca8)::(ra 20 []))))))))))))))))),[⟨27,3,s.eh0,true,false,0⟩,⟨153,0,s.eh1,true,false,0⟩,⟨0,3,[[(i s.Ma7),(i s.Ma8),(i s.Ma9)]],true,false,0⟩]⟩
noncomputable def Wb9 (p:C6) (s:o8):St:=(sel (Nat.beq s.ph 1) (Pb5 p s) (Pb4 p s))
noncomputable def J5 {α:Type} (k:o8→α) (e:Nat→α) (z:α) (p:C6) (s:o8):α:=let t1:=(r8 (⟨p.F6,p.F7,p.F8⟩:V3) (gL tV p.xb9 s.Ca8.toNat));(sl (decide (s.Ca8 < p.yd0)) (sl (inB s.Ca8 (List.length p.xb9)) (sl (!(Ga6 3 [(0,(.int .i64)),(1,(.int .i64)),(2,(.int .i64))] [(i t1.x),(i t1.y),(i t1.z)] [])) (k ⟨1,(W (s.Ca8+1)),1,[[(i t1.x),(i t1.y),(i t1.z)]],(V2 [(0,(.int .i64)),(1,(.int .i64)),(2,(.int .i64))] [(i t1.x),(i t1.y),(i t1.z)] [(i t1.x),(i t1.y),(i t1.z),(b true)] []),p.F6,p.F7,p.F8⟩) (k ⟨0,(W (s.Ca8+1)),0,[],[],0,0,0⟩)) z) (e 1))
noncomputable def J6 {α:Type} (k:o8→α) (e:Nat→α) (z:α) (p:C6) (s:o8):α:=let t1:=(r8 (⟨s.Ma7,s.Ma8,s.Ma9⟩:V3) (gL tV p.xb9 s.Ca8.toNat));(sl (decide (s.Ca8 < p.yd0)) (sl (inB s.Ca8 (List.length p.xb9)) (sl (!(Ga6 3 [(0,(.int .i64)),(1,(.int .i64)),(2,(.int .i64))] [(i t1.x),(i t1.y),(i t1.z)] s.eh1)) (sl (Nat.beq s.ns7 (len s.eh0)&&Nat.ble ((s.ns7+1)*24) room) (k ⟨1,(W (s.Ca8+1)),(s.ns7+1),(app s.eh0 [[(i t1.x),(i t1.y),(i t1.z)]]),(V2 [(0,(.int .i64)),(1,(.int .i64)),(2,(.int .i64))] [(i t1.x),(i t1.y),(i t1.z)] [(i t1.x),(i t1.y),(i t1.z),(b true)] s.eh1),s.Ma7,s.Ma8,s.Ma9⟩) z) (k ⟨1,(W (s.Ca8+1)),s.ns7,s.eh0,s.eh1,s.Ma7,s.Ma8,s.Ma9⟩)) z) (e 2))
noncomputable def H5 (p:C6) (s:o8):Stp o8:=(sel (Nat.beq s.ph 1) (J6 .next .exit .fail p s) (J5 .next .exit .fail p s))
noncomputable def La8:Lo C6 o8:=⟨En Qa2,0,Te9,[1,1,1,0,1,4,4,1,1,0,4,1,1,4,4],[1,2,7,8,10,15,16,17,21,22,23],.p,[⟨((.s (.o .unk))::((.s (.c 3 (nL tV)))::((.s (.o (.fn 34)))::(ru2 4 ((.s (.o .nil))::((.s (.o (.ptr 0 0 0 0)))::((.s (.o .unk))::((.s (.o (.ptr 1 0 0 0)))::(ru2 4 ((.s (.c 3 (nL tV)))::((.s (.o (.int .i64)))::((.s (.o (.int .i64)))::(ru2 3 ((.s (.c 3 (nL tV)))::((.s (.o (.int .i64)))::((.s (.o (.int .i64)))::(ru2 20 []))))))))))))))))),[⟨153,0,true,(some [])⟩,⟨0,3,true,(some [[(.o (.int .i64)),(.o (.int .i64)),(.o (.int .i64))]])⟩],fun a H=>(⟨(rL tV (slT a 1)),(rL tV (slT a 15)),(toI (slT a 16)),(toI (slT a 17)),(rL tV (slT a 21)),(toI (slT a 22)),(toI (slT (rwT (elT H 1) 0) 0)),(toI (slT (rwT (elT H 1) 0) 1)),(toI (slT (rwT (elT H 1) 0) 2))⟩,⟨0,(toI (slT a 23)),0,[],[],0,0,0⟩)⟩,⟨((.s (.o .unk))::((.s (.c 3 (nL tV)))::((.s (.o (.fn 34)))::(ru2 4 ((.s (.o (.sl 0 0 (some 0) none)))::((.s (.o (.ptr 1 0 0 0)))::((.s (.o .unk))::((.s (.o (.ptr 2 0 0 0)))::(ru2 4 ((.s (.c 3 (nL tV)))::((.s (.o (.int .i64)))::((.s (.o (.int .i64)))::(ru2 3 ((.s (.c 3 (nL tV)))::((.s (.o (.int .i64)))::((.s (.o (.int .i64)))::(ru2 20 []))))))))))))))))),[⟨27,3,true,none⟩,⟨153,0,true,none⟩,⟨0,3,true,(some [[(.o (.int .i64)),(.o (.int .i64)),(.o (.int .i64))]])⟩],fun a H=>(⟨(rL tV (slT a 1)),(rL tV (slT a 15)),(toI (slT a 16)),(toI (slT a 17)),(rL tV (slT a 21)),(toI (slT a 22)),0,0,0⟩,⟨1,(toI (slT a 23)),(slN (slT a 7)),(elT H 0),(elT H 1),(toI (slT (rwT (elT H 2) 0) 0)),(toI (slT (rwT (elT H 2) 0) 1)),(toI (slT (rwT (elT H 2) 0) 2))⟩)⟩],H5,[(some 2,fun p s=>⟨(.unk::((eL tV p.q9)::((.fn 34 [])::(ra 4 ((.v (.slice none 0 0))::((.ptr 0 0 0 0)::(.unk::((.ptr 1 0 0 0)::(ra 4 ((eL tV p.aa8)::((i p.U2)::((i p.o9)::(ra 3 ((eL tV p.xb9)::((i p.yd0)::((i s.Ca8)::((b (decide (s.Ca8 < p.yd0)))::(ra 19 [])))))))))))))))))),[⟨153,0,[],true,false,0⟩,⟨0,3,[[(i p.F6),(i p.F7),(i p.F8)]],true,false,0⟩]⟩),(some 2,fun p s=>⟨(.unk::((eL tV p.q9)::((.fn 34 [])::(ra 4 ((.sl 0 0 s.ns7 0)::((.ptr 1 0 0 0)::(.unk::((.ptr 2 0 0 0)::(ra 4 ((eL tV p.aa8)::((i p.U2)::((i p.o9)::(ra 3 ((eL tV p.xb9)::((i p.yd0)::((i s.Ca8)::((b (decide (s.Ca8 < p.yd0)))::(ra 19 [])))))))))))))))))),[⟨27,3,s.eh0,true,false,0⟩,⟨153,0,s.eh1,true,false,0⟩,⟨0,3,[[(i s.Ma7),(i s.Ma8),(i s.Ma9)]],true,false,0⟩]⟩)],Wb9⟩
theorem Xb0:La8.OkM:=Lo.okM [] (by kernel_rfl) .nil rfl (.cons (fun a H=>by kernel_rfl) (.cons (fun a H=>by kernel_rfl) .nil)) fun p s=>(.sel (Nat.beq s.ph 1) (.of @J6 (fun F _ _ _ _ _=>by unfold J6;(repeat' apply k8 (f:=F))<;>rfl) (by kernel_rfl)) (.of @J5 (fun F _ _ _ _ _=>by unfold J5;(repeat' apply k8 (f:=F))<;>rfl) (by kernel_rfl)))
structure K1 where
 U2:Int
structure s7 where
 ph:Nat
 q9:List V3
 aa8:List V3
 o9:Int
 ns7:Nat
 eh0:List (List b7)
 eh1:List (List b7)
noncomputable def Pb6 (p:K1) (s:s7):St:=⟨(.unk::((eL tV s.q9)::((.fn 34 [])::(ra 4 ((.v (.slice none 0 0))::((.ptr 0 0 0 0)::(ra 6 ((eL tV s.aa8)::((i p.U2)::((i s.o9)::(ra 26 []))))))))))),[⟨153,0,[],true,false,0⟩]⟩
noncomputable def Pb7 (p:K1) (s:s7):St:=⟨(.unk::((eL tV s.q9)::((.fn 34 [])::(ra 4 ((.sl 0 0 s.ns7 0)::((.ptr 1 0 0 0)::(ra 6 ((eL tV s.aa8)::((i p.U2)::((i s.o9)::(ra 26 []))))))))))),[⟨27,3,s.eh0,true,false,0⟩,⟨153,0,s.eh1,true,false,0⟩]⟩
noncomputable def Xb1 (p:K1) (s:s7):St:=(sel (Nat.beq s.ph 1) (Pb7 p s) (Pb6 p s))
noncomputable def J7 {α:Type} (k:s7→α) (e:Nat→α) (z:α) (p:K1) (s:s7):α:=let t1:=(lp (H5 (⟨(rt tV s.q9),(rt tV s.aa8),p.U2,s.o9,(rt tV s.q9),(↑(List.length s.q9):Int),(gL tV s.aa8 s.o9.toNat).x,(gL tV s.aa8 s.o9.toNat).y,(gL tV s.aa8 s.o9.toNat).z⟩:C6)) (⟨0,0,0,[],[],0,0,0⟩:o8));(sl (decide (s.o9 < p.U2)) (sl (inB s.o9 (List.length s.aa8)) (sl ((cnE tV s.q9)&&((cnE tV s.aa8)&&((cnE tV s.q9)&&true))) (sl (Nat.beq t1.1 1) (k ⟨0,(rt tV s.q9),(rt tV s.aa8),(W (s.o9+1)),0,[],[]⟩) (sl (Nat.beq t1.1 2) (k ⟨1,(rt tV s.q9),(rt tV s.aa8),(W (s.o9+1)),t1.2.ns7,t1.2.eh0,t1.2.eh1⟩) z)) z) z) (e 1))
noncomputable def J8 {α:Type} (k:s7→α) (e:Nat→α) (z:α) (p:K1) (s:s7):α:=let t1:=(lp (H5 (⟨(rt tV s.q9),(rt tV s.aa8),p.U2,s.o9,(rt tV s.q9),(↑(List.length s.q9):Int),0,0,0⟩:C6)) (⟨1,0,s.ns7,s.eh0,s.eh1,(gL tV s.aa8 s.o9.toNat).x,(gL tV s.aa8 s.o9.toNat).y,(gL tV s.aa8 s.o9.toNat).z⟩:o8));(sl (decide (s.o9 < p.U2)) (sl (inB s.o9 (List.length s.aa8)) (sl ((cnE tV s.q9)&&((cnE tV s.aa8)&&((cnE tV s.q9)&&true))) (sl (Nat.beq t1.1 1) (k ⟨0,(rt tV s.q9),(rt tV s.aa8),(W (s.o9+1)),0,[],[]⟩) (sl (Nat.beq t1.1 2) (k ⟨1,(rt tV s.q9),(rt tV s.aa8),(W (s.o9+1)),t1.2.ns7,t1.2.eh0,t1.2.eh1⟩) z)) z) z) (e 2))
noncomputable def fa2 (p:K1) (s:s7):Stp s7:=(sel (Nat.beq s.ph 1) (J8 .next .exit .fail p s) (J7 .next .exit .fail p s))
noncomputable def La9:Lo K1 s7:=⟨En Qa2,0,Te9,[1,1,1,0,1,4,4],[1,2,7,8,15,16,17],(.s .p (.s .p (.s (.b (.s .p (.s .p (.b (.u La8.lsM))))) .p))),[⟨((.s (.o .unk))::((.s (.c 3 (nL tV)))::((.s (.o (.fn 34)))::(ru2 4 ((.s (.o .nil))::((.s (.o (.ptr 0 0 0 0)))::(ru2 6 ((.s (.c 3 (nL tV)))::((.s (.o (.int .i64)))::((.s (.o (.int .i64)))::(ru2 26 []))))))))))),[⟨153,0,true,(some [])⟩],fun a H=>(⟨(toI (slT a 16))⟩,⟨0,(rL tV (slT a 1)),(rL tV (slT a 15)),(toI (slT a 17)),0,[],[]⟩)⟩,⟨((.s (.o .unk))::((.s (.c 3 (nL tV)))::((.s (.o (.fn 34)))::(ru2 4 ((.s (.o (.sl 0 0 (some 0) none)))::((.s (.o (.ptr 1 0 0 0)))::(ru2 6 ((.s (.c 3 (nL tV)))::((.s (.o (.int .i64)))::((.s (.o (.int .i64)))::(ru2 26 []))))))))))),[⟨27,3,true,none⟩,⟨153,0,true,none⟩],fun a H=>(⟨(toI (slT a 16))⟩,⟨1,(rL tV (slT a 1)),(rL tV (slT a 15)),(toI (slT a 17)),(slN (slT a 7)),(elT H 0),(elT H 1)⟩)⟩],fa2,[(some 0,fun p s=>⟨(.unk::((eL tV s.q9)::((.fn 34 [])::(ra 4 ((.v (.slice none 0 0))::((.ptr 0 0 0 0)::(ra 6 ((eL tV s.aa8)::((i p.U2)::((i s.o9)::((b (decide (s.o9 < p.U2)))::(ra 25 [])))))))))))),[⟨153,0,[],true,false,0⟩]⟩),(some 0,fun p s=>⟨(.unk::((eL tV s.q9)::((.fn 34 [])::(ra 4 ((.sl 0 0 s.ns7 0)::((.ptr 1 0 0 0)::(ra 6 ((eL tV s.aa8)::((i p.U2)::((i s.o9)::((b (decide (s.o9 < p.U2)))::(ra 25 [])))))))))))),[⟨27,3,s.eh0,true,false,0⟩,⟨153,0,s.eh1,true,false,0⟩]⟩)],Xb1⟩
theorem Xb2:La9.OkM:=Lo.okM [La8.prM] (by kernel_rfl) (.cons Xb0 .nil) rfl (.cons (fun a H=>by kernel_rfl) (.cons (fun a H=>by kernel_rfl) .nil)) fun p s=>(.sel (Nat.beq s.ph 1) (.of @J8 (fun F _ _ _ _ _=>by unfold J8;(repeat' apply k8 (f:=F))<;>rfl) (by kernel_rfl)) (.of @J7 (fun F _ _ _ _ _=>by unfold J7;(repeat' apply k8 (f:=F))<;>rfl) (by kernel_rfl)))
structure Fa2 where
 alt:Nat
 ns0:Nat
 eh0:List (List b7)
noncomputable def ha6 {α:Type} (kk:Fa2→α) (x:Fa1):α:=let t1:=(lp (fa2 (⟨(↑(List.length x.c8):Int)⟩:K1)) (⟨0,(rt tV x.q9),(rt tV x.c8),0,0,[],[]⟩:s7));(sl ((cnE tV x.q9)&&((cnE tV x.c8)&&true)) (sl (Nat.beq t1.1 1) (kk ⟨1,0,[]⟩) (sl (Nat.beq t1.1 2) (kk ⟨2,t1.2.ns7,t1.2.eh0⟩) (kk ⟨0,0,[]⟩))) (kk ⟨0,0,[]⟩))
noncomputable def Xa4 (x:Fa1):Fa2:=ha6 (fun r=>r) x
noncomputable def Qa3 (x:Fa1) (r:Fa2):DT (b7×List c7):=(.ite (Nat.beq r.alt 1) (.ret ((.v (.slice none 0 0)),[])) (.ite (Nat.beq r.alt 2) (.ret ((.sl 0 0 r.ns0 0),[⟨27,3,r.eh0,true,false,0⟩])) .fail))
theorem Cc7 {α β:Type} (F:α→β) (kk:Fa2→α) (x:Fa1):F (ha6 kk x)=ha6 (fun r=>F (kk r)) x:=by unfold ha6;(repeat' apply k8 (f:=F))<;>rfl
noncomputable def zb4:Sum:=mb4 ⟨[(.s (.c 3 (nL tV))),(.s (.c 3 (nL tV))),(.s (.o (.fn 34)))],[],fun a H=>(⟨(rL tV (slT a 0)),(rL tV (slT a 1))⟩,())⟩ (fun x=>Qa3 x (Xa4 x))
theorem rc3:g9 prog G 79 zb4:=X4 (enc:=fun x=>⟨[(eL tV x.c8),(eL tV x.q9),(.fn 34 [])],[]⟩) (fun a H=>by kernel_rfl) (bd b79 gc9) fun x=>Fd1 (.s .p (.s .p (.s .p (.s (.s .p (.b (.u La9.lsM))) .p)))) [La9.prM] (by kernel_rfl) (.cons Xb2 .nil) (Eq.trans (b:=ha6 (fun r=>(Qa3 x r).run) x) (by kernel_rfl) (Cc7 (fun r=>(Qa3 x r).run) (fun r=>r) x).symm)
noncomputable def Ud3:List (Nat×Sum):=[(79,zb4),(35,zb3)]
theorem Jd8:j9 prog G Ud3:=⟨rc3,rc2,trivial⟩
noncomputable def sb8 (x:List V3) (y:List V3):Option (b7×List c7):=let t1:=(Xa4 ⟨(rt tV x),(rt tV y)⟩);let t2:=(Ea5 ());let t3:=(Ea9 (slR tV t1.eh0 0 t1.ns0));(sl (decide ((if (↑(List.length y):Int) > (↑(List.length x):Int) then (↑(List.length y):Int) else (↑(List.length x):Int)) > 48)) (some ((.tup [(.v (.slice none 0 0)),(i 2)]),[])) (sl ((cnE tV x)&&((cnE tV y)&&true)) (sl (Nat.beq t1.alt 1) (sl (Ea6 ()) (some ((.tup [(eL tV t2.1),(i t2.2)]),[])) none) (sl (Nat.beq t1.alt 2) (sl (okS tV t1.eh0 0 t1.ns0) (sl (Fa0 (slR tV t1.eh0 0 t1.ns0)) (some ((.tup [(eL tV t3.1),(i t3.2)]),[])) none) none) none)) none))
noncomputable def Qa4 (x:List V3) (y:List V3):List V3×Int:=M4 (two (r1L tV) r1I) (sb8 x y)
noncomputable def Qa5 (x:List V3) (y:List V3):Bool:=okO (two (r1L tV) r1I) (sb8 x y)
noncomputable def rc4:Sum:=ga1 (oa4 tV) (oa4 tV) (fun x y=>.guard (Qa5 x y) (.ret ((two (r1L tV) r1I).enc (Qa4 x y),[])))
theorem Uc6:g9 prog G 28 rc4:=Oa2 (bd b28 Jd8) (two (r1L tV) r1I) (o:=sb8) fun x y=>A6 (by kernel_rfl)
noncomputable def Ib8:List (Nat×Sum):=[(83,Ta4)]
theorem Cc8:j9 prog G Ib8:=⟨Ya7,trivial⟩
structure ra0 where
 c8:List V3
 yd1:List V3
 Md5:Int
 d6:Int
 b8:Int
 d8:Int
structure R2 where
 is6:Int
 fd4:Int
noncomputable def rc5 (p:ra0) (s:R2):St:=⟨((eL tV p.c8)::(.unk::(.unk::((.ptr 0 0 0 0)::(.unk::(.unk::((i s.is6)::(ra 3 ((eL tV p.yd1)::((i p.Md5)::((i s.fd4)::(ra 20 [])))))))))))),[⟨0,3,[[(i p.d6),(i p.b8),(i p.d8)]],true,false,0⟩]⟩
noncomputable def ja2 {α:Type} (k:R2→α) (e:Nat→α) (z:α) (p:ra0) (s:R2):α:=let t1:=(r7 (gL tV p.yd1 s.fd4.toNat) (⟨p.d6,p.b8,p.d8⟩:V3));(sl (decide (s.fd4 < p.Md5)) (sl (inB s.fd4 (List.length p.yd1)) (sl (s.fd4==0) (k ⟨t1,(W (s.fd4+1))⟩) (sl (decide (t1 > s.is6)) (k ⟨t1,(W (s.fd4+1))⟩) (k ⟨s.is6,(W (s.fd4+1))⟩))) z) (e 1))
noncomputable def da7 (p:ra0) (s:R2):Stp R2:=ja2 .next .exit .fail p s
noncomputable def Xa5:Lo ra0 R2:=⟨En Ib8,0,bf7,[1,1,0,1,4,4],[0,3,6,10,11,12],.p,[⟨((.s (.c 3 (nL tV)))::((.s (.o .unk))::((.s (.o .unk))::((.s (.o (.ptr 0 0 0 0)))::((.s (.o .unk))::((.s (.o .unk))::((.s (.o (.int .i64)))::(ru2 3 ((.s (.c 3 (nL tV)))::((.s (.o (.int .i64)))::((.s (.o (.int .i64)))::(ru2 20 [])))))))))))),[⟨0,3,true,(some [[(.o (.int .i64)),(.o (.int .i64)),(.o (.int .i64))]])⟩],fun a H=>(⟨(rL tV (slT a 0)),(rL tV (slT a 10)),(toI (slT a 11)),(toI (slT (rwT (elT H 0) 0) 0)),(toI (slT (rwT (elT H 0) 0) 1)),(toI (slT (rwT (elT H 0) 0) 2))⟩,⟨(toI (slT a 6)),(toI (slT a 12))⟩)⟩],da7,[(some 0,fun p s=>⟨((eL tV p.c8)::(.unk::(.unk::((.ptr 0 0 0 0)::(.unk::(.unk::((i s.is6)::(ra 3 ((eL tV p.yd1)::((i p.Md5)::((i s.fd4)::((b (decide (s.fd4 < p.Md5)))::(ra 19 []))))))))))))),[⟨0,3,[[(i p.d6),(i p.b8),(i p.d8)]],true,false,0⟩]⟩)],rc5⟩
theorem rc6:Xa5.Ok:=Lo.ok [] (by kernel_rfl) .nil rfl (.cons (fun a H=>by kernel_rfl) .nil) fun p s=>(.of @ja2 (fun F _ _ _ _ _=>by unfold ja2;(repeat' apply k8 (f:=F))<;>rfl) (by kernel_rfl))
noncomputable def Ca2 (x:List V3) (y:V3):Option (b7×List c7):=let t1:=(lp (da7 (⟨(rt tV x),(rt tV x),(↑(List.length x):Int),y.x,y.y,y.z⟩:ra0)) (⟨0,0⟩:R2));(sl ((cnE tV x)&&((cnE tV x)&&true)) (sl (Nat.beq t1.1 1) (some ((.tup [(i t1.2.is6),(b (decide ((↑(List.length (rt tV x)):Int) > 0)))]),[])) none) none)
noncomputable def sa9 (x:List V3) (y:V3):Int×Bool:=M4 (two r1I r1B) (Ca2 x y)
noncomputable def ta0 (x:List V3) (y:V3):Bool:=okO (two r1I r1B) (Ca2 x y)
noncomputable def ob9:Sum:=ga1 (oa4 tV) (K9 tV) (fun x y=>.guard (ta0 x y) (.ret ((two r1I r1B).enc (sa9 x y),[])))
theorem Ib9:g9 prog G 31 ob9:=Oa2 (bd b31 Cc8) (two r1I r1B) (o:=Ca2) fun x y=>xa9 (.s .p (.s .p (.s (.s .p (.b (.u Xa5.ls))) .p))) [Xa5.pr] (by kernel_rfl) (.cons rc6 .nil) (by kernel_rfl)
end Go.Ev.Ce
end
section
namespace Go.Ev.Ce
open Go Go.Ev Go.Ev.L Go.Proofs
set_option maxRecDepth 100000
structure Ke5 where
 fa6:Int
 fa7:Int
 fa8:Int
 Wc8:Int
 d6:Int
 b8:Int
 d8:Int
structure Ke6 where
 alt:Nat
 bs0:Bool
structure Yc6 where
 i9:List Pln
 d6:Int
 b8:Int
 d8:Int
structure Hc8 where
 i9:List Pln
 is7:Int
 d6:Int
 b8:Int
 d8:Int
structure Hc9 where
 is8:Int
structure Yc7 where
 alt:Nat
 is0:Int
structure Cc9 where
 i9:List Pln
 d6:Int
 b8:Int
 d8:Int
structure Dc0 where
 alt:Nat
 bs0:Bool
end Go.Ev.Ce
end
section
namespace Go.Ev.Ce
open Go Go.Ev Go.Ev.L Go.Proofs
set_option maxRecDepth 100000
structure xe3 where
 i9:List Pln
 is2:Int
 d6:Int
 b8:Int
 d8:Int
structure xe4 where
 ph:Nat
 is9:Int
 ns8:Nat
 eh1:List (List b7)
noncomputable def hc3:List (Nat×Sum):=[]
theorem ed4:j9 prog G hc3:=trivial
structure Ca3 where
 c8:List V3
 d6:Int
 b8:Int
 d8:Int
structure V0 where
 is5:Int
noncomputable def Uc7 (p:Ca3) (s:V0):St:=⟨((eL tV p.c8)::(.unk::(.unk::((.ptr 0 0 0 0)::(.unk::((i s.is5)::(ra 12 []))))))),[⟨0,3,[[(i p.d6),(i p.b8),(i p.d8)]],true,false,0⟩]⟩
noncomputable def ra1 {α:Type} (k:V0→α) (e:Nat→α) (z:α) (p:Ca3) (s:V0):α:=(sl (decide (s.is5 < (↑(List.length p.c8):Int))) (sl (inB s.is5 (List.length p.c8)) (sl (((gL tV p.c8 s.is5.toNat).x==p.d6)&&(((gL tV p.c8 s.is5.toNat).y==p.b8)&&(((gL tV p.c8 s.is5.toNat).z==p.d8)&&true))) (e 1) (k ⟨(W (s.is5+1))⟩)) z) (e 2))
noncomputable def wa7 (p:Ca3) (s:V0):Stp V0:=ra1 .next .exit .fail p s
noncomputable def pb0:Lo Ca3 V0:=⟨En hc3,0,bf9,[1,0,1,4,4],[0,3,5],.p,[⟨((.s (.c 3 (nL tV)))::((.s (.o .unk))::((.s (.o .unk))::((.s (.o (.ptr 0 0 0 0)))::((.s (.o .unk))::((.s (.o (.int .i64)))::(ru2 12 []))))))),[⟨0,3,true,(some [[(.o (.int .i64)),(.o (.int .i64)),(.o (.int .i64))]])⟩],fun a H=>(⟨(rL tV (slT a 0)),(toI (slT (rwT (elT H 0) 0) 0)),(toI (slT (rwT (elT H 0) 0) 1)),(toI (slT (rwT (elT H 0) 0) 2))⟩,⟨(toI (slT a 5))⟩)⟩],wa7,[(none,fun p s=>⟨[(b true)],[]⟩),(some 0,fun p s=>⟨((eL tV p.c8)::(.unk::(.unk::((.ptr 0 0 0 0)::(.unk::((i s.is5)::((i s.is5)::((eL tV p.c8)::((i (↑(List.length p.c8):Int))::((b (decide (s.is5 < (↑(List.length p.c8):Int))))::(ra 8 []))))))))))),[⟨0,3,[[(i p.d6),(i p.b8),(i p.d8)]],true,false,0⟩]⟩)],Uc7⟩
theorem Uc8:pb0.Ok:=Lo.ok [] (by kernel_rfl) .nil rfl (.cons (fun a H=>by kernel_rfl) .nil) fun p s=>(.of @ra1 (fun F _ _ _ _ _=>by unfold ra1;(repeat' apply k8 (f:=F))<;>rfl) (by kernel_rfl))
noncomputable def Ua2 (x:List V3) (y:V3):Option (b7×List c7):=let t1:=(lp (wa7 (⟨(rt tV x),y.x,y.y,y.z⟩:Ca3)) (⟨0⟩:V0));(sl ((cnE tV x)&&true) (sl (Nat.beq t1.1 1) (some ((b true),[])) (sl (Nat.beq t1.1 2) (some ((b false),[])) none)) none)
noncomputable def Ua3 (x:List V3) (y:V3):Bool:=M4 (one r1B) (Ua2 x y)
noncomputable def Ua4 (x:List V3) (y:V3):Bool:=okO (one r1B) (Ua2 x y)
noncomputable def wc0:Sum:=ga1 (oa4 tV) (K9 tV) (fun x y=>.guard (Ua4 x y) (.ret ((one r1B).enc (Ua3 x y),[])))
theorem wd2:g9 prog G 81 wc0:=Oa2 (bd b81 ed4) (one r1B) (o:=Ua2) fun x y=>xa9 (.s .p (.s (.s .p (.b (.u pb0.ls))) .p)) [pb0.pr] (by kernel_rfl) (.cons Uc8 .nil) (by kernel_rfl)
noncomputable def ed5:List (Nat×Sum):=[]
theorem Uc9:j9 prog G ed5:=trivial
noncomputable def Ma0 (x:V3) (y:V3):Option (b7×List c7):=(sl (x.x != y.x) (some ((b (decide (x.x < y.x))),[])) (sl (x.y != y.y) (some ((b (decide (x.y < y.y))),[])) (some ((b (decide (x.z < y.z))),[]))))
noncomputable def Ma1 (x:V3) (y:V3):Bool:=M4 (one r1B) (Ma0 x y)
noncomputable def ab6 (x:V3) (y:V3):Bool:=okO (one r1B) (Ma0 x y)
noncomputable def hc5:Sum:=ga1 (K9 tV) (K9 tV) (fun x y=>.guard (ab6 x y) (.ret ((one r1B).enc (Ma1 x y),[])))
theorem ed6:g9 prog G 185 hc5:=Oa2 (bd qf3 Uc9) (one r1B) (o:=Ma0) fun x y=>A6 (by kernel_rfl)
noncomputable def Vc0:List (Nat×Sum):=[(185,hc5)]
theorem Jd9:j9 prog G Vc0:=⟨ed6,trivial⟩
structure Ua5 where
 c8:List V3
 d6:Int
 b8:Int
 d8:Int
structure ja3 where
 is5:Int
noncomputable def wd3 (p:Ua5) (s:ja3):St:=⟨((eL tV p.c8)::(.unk::(.unk::((.ptr 0 0 0 0)::(.unk::((i s.is5)::(ra 41 []))))))),[⟨0,3,[[(i p.d6),(i p.b8),(i p.d8)]],true,false,0⟩]⟩
noncomputable def Ca4 {α:Type} (k:ja3→α) (e:Nat→α) (z:α) (p:Ua5) (s:ja3):α:=let t1:=(Ma1 (gL tV p.c8 s.is5.toNat) (⟨p.d6,p.b8,p.d8⟩:V3));(sl (decide (s.is5 < (↑(List.length p.c8):Int))) (sl (inB s.is5 (List.length p.c8)) (sl (ab6 (gL tV p.c8 s.is5.toNat) (⟨p.d6,p.b8,p.d8⟩:V3)) (sl t1 (k ⟨(W (s.is5+1))⟩) (e 1)) z) z) (e 2))
noncomputable def za1 (p:Ua5) (s:ja3):Stp ja3:=Ca4 .next .exit .fail p s
noncomputable def Jb0:Lo Ua5 ja3:=⟨En Vc0,0,Oe4,[1,1,0,4,4],[0,3,5],.p,[⟨((.s (.c 3 (nL tV)))::((.s (.o .unk))::((.s (.o .unk))::((.s (.o (.ptr 0 0 0 0)))::((.s (.o .unk))::((.s (.o (.int .i64)))::(ru2 41 []))))))),[⟨0,3,true,(some [[(.o (.int .i64)),(.o (.int .i64)),(.o (.int .i64))]])⟩],fun a H=>(⟨(rL tV (slT a 0)),(toI (slT (rwT (elT H 0) 0) 0)),(toI (slT (rwT (elT H 0) 0) 1)),(toI (slT (rwT (elT H 0) 0) 2))⟩,⟨(toI (slT a 5))⟩)⟩],za1,[(some 0,fun p s=>let t1:=(Ma1 (gL tV p.c8 s.is5.toNat) (⟨p.d6,p.b8,p.d8⟩:V3));⟨((eL tV p.c8)::(.unk::(.unk::((.ptr 0 0 0 0)::(.unk::((i s.is5)::(.unk::((i s.is5)::((eL tV p.c8)::((i (↑(List.length p.c8):Int))::((b (decide (s.is5 < (↑(List.length p.c8):Int))))::((b true)::((eL tV p.c8)::((i s.is5)::((.tptr [(i (gL tV p.c8 s.is5.toNat).x),(i (gL tV p.c8 s.is5.toNat).y),(i (gL tV p.c8 s.is5.toNat).z)])::((.agg [(i (gL tV p.c8 s.is5.toNat).x),(i (gL tV p.c8 s.is5.toNat).y),(i (gL tV p.c8 s.is5.toNat).z)])::((.agg [(i p.d6),(i p.b8),(i p.d8)])::((b t1)::((b t1)::(ra 28 [])))))))))))))))))))),[⟨0,3,[[(i p.d6),(i p.b8),(i p.d8)]],true,false,0⟩]⟩),(some 0,fun p s=>⟨((eL tV p.c8)::(.unk::(.unk::((.ptr 0 0 0 0)::(.unk::((i s.is5)::(.unk::((i s.is5)::((eL tV p.c8)::((i (↑(List.length p.c8):Int))::((b (decide (s.is5 < (↑(List.length p.c8):Int))))::((b false)::(u::(u::(u::(u::(u::(u::((b false)::(ra 28 [])))))))))))))))))))),[⟨0,3,[[(i p.d6),(i p.b8),(i p.d8)]],true,false,0⟩]⟩)],wd3⟩
theorem wd4:Jb0.Ok:=Lo.ok [] (by kernel_rfl) .nil rfl (.cons (fun a H=>by kernel_rfl) .nil) fun p s=>(.of @Ca4 (fun F _ _ _ _ _=>by unfold Ca4;(repeat' apply k8 (f:=F))<;>rfl) (by kernel_rfl))
noncomputable def sb9 (x:List V3) (y:V3):Option (b7×List c7):=let t1:=(lp (za1 (⟨(rt tV x),y.x,y.y,y.z⟩:Ua5)) (⟨0⟩:ja3));let a0:=(r6 (fun k=>(fun k=>(tV).row (gL tV (rt tV x) k)) (0+k)) (List.range (t1.2.is5.toNat - 0)));let a1:=(r6 (fun k=>(fun k=>(tV).row (gL tV (rt tV x) k)) (t1.2.is5.toNat+k)) (List.range ((List.length (rt tV x)) - t1.2.is5.toNat)));let a2:=(inB t1.2.is5 ((List.length (rt tV x))+1));let a3:=(Nat.beq (0+(len a0)) (len (app [] a0))&&Nat.ble (((0+(len a0))+1)*24) room);let a4:=(((0+(len a0))+1)+(len a1));let a5:=(gL tV (rt tV x) t1.2.is5.toNat);let a6:=(Nat.beq 1 1&&Nat.ble ((1+(len a1))*24) room);let a7:=(Nat.beq 0 0&&Nat.ble ((0+(len a0))*24) room);(sl ((cnE tV x)&&true) (sl (Nat.beq t1.1 1) (sl (decide (t1.2.is5 < (↑(List.length (rt tV x)):Int))) (sl (inB t1.2.is5 (List.length (rt tV x))) (sl ((a5.x==y.x)&&((a5.y==y.y)&&((a5.z==y.z)&&true))) (some ((eL tV (rt tV x)),[])) (sl a2 (sl (Nat.beq (len a0) 0) (sl a2 (sl (Nat.beq (len a1) 0) (some ((.sl 0 0 1 0),[⟨27,3,[[(i y.x),(i y.y),(i y.z)]],true,false,0⟩])) (sl a6 (some ((.sl 0 0 (1+(len a1)) 0),[⟨27,3,(app [[(i y.x),(i y.y),(i y.z)]] a1),true,false,0⟩])) none)) none) (sl a7 (sl a3 (sl a2 (sl (Nat.beq (len a1) 0) (some ((.sl 0 0 ((0+(len a0))+1) 0),[⟨27,3,(app (app [] a0) [[(i y.x),(i y.y),(i y.z)]]),true,false,0⟩])) (sl (Nat.beq ((0+(len a0))+1) (len (app (app [] a0) [[(i y.x),(i y.y),(i y.z)]]))&&Nat.ble (a4*24) room) (some ((.sl 0 0 a4 0),[⟨27,3,(app (app (app [] a0) [[(i y.x),(i y.y),(i y.z)]]) a1),true,false,0⟩])) none)) none) none) none)) none)) none) (sl a2 (sl (Nat.beq (len a0) 0) (sl a2 (sl (Nat.beq (len a1) 0) (some ((.sl 0 0 1 0),[⟨27,3,[[(i y.x),(i y.y),(i y.z)]],true,false,0⟩])) (sl a6 (some ((.sl 0 0 (1+(len a1)) 0),[⟨27,3,(app [[(i y.x),(i y.y),(i y.z)]] a1),true,false,0⟩])) none)) none) (sl a7 (sl a3 (sl a2 (sl (Nat.beq (len a1) 0) (some ((.sl 0 0 ((0+(len a0))+1) 0),[⟨27,3,(app (app [] a0) [[(i y.x),(i y.y),(i y.z)]]),true,false,0⟩])) (sl (Nat.beq ((0+(len a0))+1) (len (app (app [] a0) [[(i y.x),(i y.y),(i y.z)]]))&&Nat.ble (a4*24) room) (some ((.sl 0 0 a4 0),[⟨27,3,(app (app (app [] a0) [[(i y.x),(i y.y),(i y.z)]]) a1),true,false,0⟩])) none)) none) none) none)) none)) (sl (Nat.beq t1.1 2) (sl (decide (t1.2.is5 < (↑(List.length (rt tV x)):Int))) (sl (inB t1.2.is5 (List.length (rt tV x))) (sl ((a5.x==y.x)&&((a5.y==y.y)&&((a5.z==y.z)&&true))) (some ((eL tV (rt tV x)),[])) (sl a2 (sl (Nat.beq (len a0) 0) (sl a2 (sl (Nat.beq (len a1) 0) (some ((.sl 0 0 1 0),[⟨27,3,[[(i y.x),(i y.y),(i y.z)]],true,false,0⟩])) (sl a6 (some ((.sl 0 0 (1+(len a1)) 0),[⟨27,3,(app [[(i y.x),(i y.y),(i y.z)]] a1),true,false,0⟩])) none)) none) (sl a7 (sl a3 (sl a2 (sl (Nat.beq (len a1) 0) (some ((.sl 0 0 ((0+(len a0))+1) 0),[⟨27,3,(app (app [] a0) [[(i y.x),(i y.y),(i y.z)]]),true,false,0⟩])) (sl (Nat.beq ((0+(len a0))+1) (len (app (app [] a0) [[(i y.x),(i y.y),(i y.z)]]))&&Nat.ble (a4*24) room) (some ((.sl 0 0 a4 0),[⟨27,3,(app (app (app [] a0) [[(i y.x),(i y.y),(i y.z)]]) a1),true,false,0⟩])) none)) none) none) none)) none)) none) (sl a2 (sl (Nat.beq (len a0) 0) (sl a2 (sl (Nat.beq (len a1) 0) (some ((.sl 0 0 1 0),[⟨27,3,[[(i y.x),(i y.y),(i y.z)]],true,false,0⟩])) (sl a6 (some ((.sl 0 0 (1+(len a1)) 0),[⟨27,3,(app [[(i y.x),(i y.y),(i y.z)]] a1),true,false,0⟩])) none)) none) (sl a7 (sl a3 (sl a2 (sl (Nat.beq (len a1) 0) (some ((.sl 0 0 ((0+(len a0))+1) 0),[⟨27,3,(app (app [] a0) [[(i y.x),(i y.y),(i y.z)]]),true,false,0⟩])) (sl (Nat.beq ((0+(len a0))+1) (len (app (app [] a0) [[(i y.x),(i y.y),(i y.z)]]))&&Nat.ble (a4*24) room) (some ((.sl 0 0 a4 0),[⟨27,3,(app (app (app [] a0) [[(i y.x),(i y.y),(i y.z)]]) a1),true,false,0⟩])) none)) none) none) none)) none)) none)) none)
noncomputable def Nb5 (x:List V3) (y:V3):List V3:=M4 (one (r1L tV)) (sb9 x y)
noncomputable def Nb6 (x:List V3) (y:V3):Bool:=okO (one (r1L tV)) (sb9 x y)
noncomputable def nd1:Sum:=ga1 (oa4 tV) (K9 tV) (fun x y=>.guard (Nb6 x y) (.ret ((one (r1L tV)).enc (Nb5 x y),[])))
theorem Ud4:g9 prog G 137 nd1:=Oa2 (bd nf8 Jd9) (one (r1L tV)) (o:=sb9) fun x y=>xa9 (.s .p (.s .p (.s (.b (.u Jb0.ls)) .p))) [Jb0.pr] (by kernel_rfl) (.cons wd4 .nil) (by kernel_rfl)
noncomputable def Ca5:List (Nat×Sum):=[(135,wb1),(164,Eb9),(84,qb1)]
theorem Vc1:j9 prog G Ca5:=⟨Fb7,bc8,vb7,trivial⟩
structure W9 where
 i9:List Pln
 d6:Int
 b8:Int
 d8:Int
structure w7 where
 ph:Nat
 is6:Int
 ns5:Nat
 eh1:List (List b7)
noncomputable def rc7 (p:W9) (s:w7):St:=⟨((eL tP p.i9)::(.unk::(.unk::((.ptr 0 0 0 0)::(.unk::((.v (.slice none 0 0))::((i s.is6)::(ra 55 [])))))))),[⟨0,3,[[(i p.d6),(i p.b8),(i p.d8)]],true,false,0⟩]⟩
noncomputable def rc8 (p:W9) (s:w7):St:=⟨((eL tP p.i9)::(.unk::(.unk::((.ptr 0 0 0 0)::(.unk::((.sl 1 0 s.ns5 0)::((i s.is6)::(ra 55 [])))))))),[⟨0,3,[[(i p.d6),(i p.b8),(i p.d8)]],true,false,0⟩,⟨27,3,s.eh1,true,false,0⟩]⟩
noncomputable def Dc1 (p:W9) (s:w7):St:=(sel (Nat.beq s.ph 1) (rc8 p s) (rc7 p s))
noncomputable def T7 {α:Type} (k:w7→α) (e:Nat→α) (z:α) (p:W9) (s:w7):α:=let t1:=(va1 (gL tP p.i9 s.is6.toNat) (⟨p.d6,p.b8,p.d8⟩:V3));(sl (decide (s.is6 < (↑(List.length p.i9):Int))) (sl (inB s.is6 (List.length p.i9)) (sl (Pa0 (gL tP p.i9 s.is6.toNat) (⟨p.d6,p.b8,p.d8⟩:V3)) (sl (t1==0) (sl (inB s.is6 (List.length p.i9)) (k ⟨1,(W (s.is6+1)),1,[[(i (gL tP p.i9 s.is6.toNat).n.x),(i (gL tP p.i9 s.is6.toNat).n.y),(i (gL tP p.i9 s.is6.toNat).n.z)]]⟩) z) (k ⟨0,(W (s.is6+1)),0,[]⟩)) z) z) (e 1))
noncomputable def T8 {α:Type} (k:w7→α) (e:Nat→α) (z:α) (p:W9) (s:w7):α:=let t1:=(va1 (gL tP p.i9 s.is6.toNat) (⟨p.d6,p.b8,p.d8⟩:V3));(sl (decide (s.is6 < (↑(List.length p.i9):Int))) (sl (inB s.is6 (List.length p.i9)) (sl (Pa0 (gL tP p.i9 s.is6.toNat) (⟨p.d6,p.b8,p.d8⟩:V3)) (sl (t1==0) (sl (inB s.is6 (List.length p.i9)) (sl (Nat.beq s.ns5 (len s.eh1)&&Nat.ble ((s.ns5+1)*24) room) (k ⟨1,(W (s.is6+1)),(s.ns5+1),(app s.eh1 [[(i (gL tP p.i9 s.is6.toNat).n.x),(i (gL tP p.i9 s.is6.toNat).n.y),(i (gL tP p.i9 s.is6.toNat).n.z)]])⟩) z) z) (k ⟨1,(W (s.is6+1)),s.ns5,s.eh1⟩)) z) z) (e 2))
noncomputable def Fa3 (p:W9) (s:w7):Stp w7:=(sel (Nat.beq s.ph 1) (T8 .next .exit .fail p s) (T7 .next .exit .fail p s))
noncomputable def gb9:Lo W9 w7:=⟨En Ca5,0,Ed9,[1,1,0,1,4,4],[0,3,5,6],.p,[⟨((.s (.c 4 (nL tP)))::((.s (.o .unk))::((.s (.o .unk))::((.s (.o (.ptr 0 0 0 0)))::((.s (.o .unk))::((.s (.o .nil))::((.s (.o (.int .i64)))::(ru2 55 [])))))))),[⟨0,3,true,(some [[(.o (.int .i64)),(.o (.int .i64)),(.o (.int .i64))]])⟩],fun a H=>(⟨(rL tP (slT a 0)),(toI (slT (rwT (elT H 0) 0) 0)),(toI (slT (rwT (elT H 0) 0) 1)),(toI (slT (rwT (elT H 0) 0) 2))⟩,⟨0,(toI (slT a 6)),0,[]⟩)⟩,⟨((.s (.c 4 (nL tP)))::((.s (.o .unk))::((.s (.o .unk))::((.s (.o (.ptr 0 0 0 0)))::((.s (.o .unk))::((.s (.o (.sl 1 0 (some 0) none)))::((.s (.o (.int .i64)))::(ru2 55 [])))))))),[⟨0,3,true,(some [[(.o (.int .i64)),(.o (.int .i64)),(.o (.int .i64))]])⟩,⟨27,3,true,none⟩],fun a H=>(⟨(rL tP (slT a 0)),(toI (slT (rwT (elT H 0) 0) 0)),(toI (slT (rwT (elT H 0) 0) 1)),(toI (slT (rwT (elT H 0) 0) 2))⟩,⟨1,(toI (slT a 6)),(slN (slT a 5)),(elT H 1)⟩)⟩],Fa3,[(some 0,fun p s=>⟨((eL tP p.i9)::(.unk::(.unk::((.ptr 0 0 0 0)::(.unk::((.v (.slice none 0 0))::((i s.is6)::(ra 3 ((i s.is6)::((eL tP p.i9)::((i (↑(List.length p.i9):Int))::((b (decide (s.is6 < (↑(List.length p.i9):Int))))::(ra 48 []))))))))))))),[⟨0,3,[[(i p.d6),(i p.b8),(i p.d8)]],true,false,0⟩]⟩),(some 0,fun p s=>⟨((eL tP p.i9)::(.unk::(.unk::((.ptr 0 0 0 0)::(.unk::((.sl 1 0 s.ns5 0)::((i s.is6)::(ra 3 ((i s.is6)::((eL tP p.i9)::((i (↑(List.length p.i9):Int))::((b (decide (s.is6 < (↑(List.length p.i9):Int))))::(ra 48 []))))))))))))),[⟨0,3,[[(i p.d6),(i p.b8),(i p.d8)]],true,false,0⟩,⟨27,3,s.eh1,true,false,0⟩]⟩)],Dc1⟩
theorem Dc2:gb9.Ok:=Lo.ok [] (by kernel_rfl) .nil rfl (.cons (fun a H=>by kernel_rfl) (.cons (fun a H=>by kernel_rfl) .nil)) fun p s=>(.sel (Nat.beq s.ph 1) (.of @T8 (fun F _ _ _ _ _=>by unfold T8;(repeat' apply k8 (f:=F))<;>rfl) (by kernel_rfl)) (.of @T7 (fun F _ _ _ _ _=>by unfold T7;(repeat' apply k8 (f:=F))<;>rfl) (by kernel_rfl)))
structure P7 where
 ns5:Nat
 is7:Int
 is8:Int
 eh0:List (List b7)
structure B9 where
 ph:Nat
 is9:Int
noncomputable def rc9 (p:P7) (s:B9):St:=⟨(ra 5 ((.sl 0 0 p.ns5 0)::(.unk::((i p.is7)::((i p.is8)::((i s.is9)::(ra 52 []))))))),[⟨27,3,p.eh0,true,false,0⟩]⟩
noncomputable def sc0 (p:P7) (s:B9):St:=⟨(ra 5 ((.v (.slice none 0 0))::(.unk::((i p.is7)::((i p.is8)::((i s.is9)::(ra 52 []))))))),[]⟩
noncomputable def Dc3 (p:P7) (s:B9):St:=(sel (Nat.beq s.ph 1) (sc0 p s) (rc9 p s))
noncomputable def T9 {α:Type} (k:B9→α) (e:Nat→α) (z:α) (p:P7) (s:B9):α:=let t1:=(ua5 (rdR tV p.eh0 (0+p.is7.toNat)) (rdR tV p.eh0 (0+p.is8.toNat)));let t2:=(da2 t1 (rdR tV p.eh0 (0+s.is9.toNat)));(sl (decide (s.is9 < p.is8)) (sl (inB p.is7 p.ns5) (sl (ldR tV p.eh0 (0+p.is7.toNat)) (sl (inB p.is8 p.ns5) (sl (ldR tV p.eh0 (0+p.is8.toNat)) (sl (inB s.is9 p.ns5) (sl (ldR tV p.eh0 (0+s.is9.toNat)) (sl (t2 != 0) (e 1) (k ⟨0,(W (s.is9+1))⟩)) z) z) z) z) z) z) (e 2))
noncomputable def Qa6 {α:Type} (k:B9→α) (e:Nat→α) (z:α) (p:P7) (s:B9):α:=(sl (decide (s.is9 < p.is8)) z (e 3))
noncomputable def ra2 (p:P7) (s:B9):Stp B9:=(sel (Nat.beq s.ph 1) (Qa6 .next .exit .fail p s) (T9 .next .exit .fail p s))
noncomputable def hb5:Lo P7 B9:=⟨En Ca5,0,Ed9,[1,1,1,0,1,4,4,1,0,4,1,4,4,1,0,4,1,4,4],[5,7,8,9],.p,[⟨(ru2 5 ((.s (.o (.sl 0 0 (some 0) none)))::((.s (.o .unk))::((.s (.o (.int .i64)))::((.s (.o (.int .i64)))::((.s (.o (.int .i64)))::(ru2 52 []))))))),[⟨27,3,true,none⟩],fun a H=>(⟨(slN (slT a 5)),(toI (slT a 7)),(toI (slT a 8)),(elT H 0)⟩,⟨0,(toI (slT a 9))⟩)⟩,⟨(ru2 5 ((.s (.o .nil))::((.s (.o .unk))::((.s (.o (.int .i64)))::((.s (.o (.int .i64)))::((.s (.o (.int .i64)))::(ru2 52 []))))))),[],fun a H=>(⟨0,(toI (slT a 7)),(toI (slT a 8)),[]⟩,⟨1,(toI (slT a 9))⟩)⟩],ra2,[(none,fun p s=>⟨[(b true)],[]⟩),(some 6,fun p s=>⟨(ra 5 ((.sl 0 0 p.ns5 0)::(.unk::((i p.is7)::((i p.is8)::((i s.is9)::(ra 32 ((i s.is9)::((i p.is8)::((b (decide (s.is9 < p.is8)))::(ra 17 []))))))))))),[⟨27,3,p.eh0,true,false,0⟩]⟩),(some 6,fun p s=>⟨(ra 5 ((.v (.slice none 0 0))::(.unk::((i p.is7)::((i p.is8)::((i s.is9)::(ra 32 ((i s.is9)::((i p.is8)::((b (decide (s.is9 < p.is8)))::(ra 17 []))))))))))),[]⟩)],Dc3⟩
theorem Dc4:hb5.Ok:=Lo.ok [] (by kernel_rfl) .nil rfl (.cons (fun a H=>by kernel_rfl) (.cons (fun a H=>by kernel_rfl) .nil)) fun p s=>(.sel (Nat.beq s.ph 1) (.of @Qa6 (fun F _ _ _ _ _=>by unfold Qa6;(repeat' apply k8 (f:=F))<;>rfl) (by kernel_rfl)) (.of @T9 (fun F _ _ _ _ _=>by unfold T9;(repeat' apply k8 (f:=F))<;>rfl) (by kernel_rfl)))
structure P8 where
 is7:Int
structure C0 where
 ph:Nat
 ns5:Nat
 is8:Int
 eh0:List (List b7)
noncomputable def sc1 (p:P8) (s:C0):St:=⟨(ra 5 ((.sl 0 0 s.ns5 0)::(.unk::((i p.is7)::((i s.is8)::(ra 53 [])))))),[⟨27,3,s.eh0,true,false,0⟩]⟩
noncomputable def sc2 (p:P8) (s:C0):St:=⟨(ra 5 ((.v (.slice none 0 0))::(.unk::((i p.is7)::((i s.is8)::(ra 53 [])))))),[]⟩
noncomputable def Dc5 (p:P8) (s:C0):St:=(sel (Nat.beq s.ph 1) (sc2 p s) (sc1 p s))
noncomputable def U0 {α:Type} (k:C0→α) (e:Nat→α) (z:α) (p:P8) (s:C0):α:=let t1:=(lp (ra2 (⟨s.ns5,p.is7,s.is8,s.eh0⟩:P7)) (⟨0,0⟩:B9));(sl (decide (s.is8 < p.is7)) (sl (Nat.beq t1.1 1) (e 1) (sl (Nat.beq t1.1 2) (k ⟨0,s.ns5,(W (s.is8+1)),s.eh0⟩) (sl (Nat.beq t1.1 3) (k ⟨1,0,(W (s.is8+1)),[]⟩) z))) (e 2))
noncomputable def Qa7 {α:Type} (k:C0→α) (e:Nat→α) (z:α) (p:P8) (s:C0):α:=let t1:=(lp (ra2 (⟨0,p.is7,s.is8,[]⟩:P7)) (⟨1,0⟩:B9));(sl (decide (s.is8 < p.is7)) (sl (Nat.beq t1.1 1) (e 1) (sl (Nat.beq t1.1 2) (k ⟨0,0,(W (s.is8+1)),[]⟩) (sl (Nat.beq t1.1 3) (k ⟨1,0,(W (s.is8+1)),[]⟩) z))) (e 3))
noncomputable def ra3 (p:P8) (s:C0):Stp C0:=(sel (Nat.beq s.ph 1) (Qa7 .next .exit .fail p s) (U0 .next .exit .fail p s))
noncomputable def hb6:Lo P8 C0:=⟨En Ca5,0,Ed9,[1,1,1,0,1,4,4,1,0,4,1,4,4],[5,7,8],(.s .p (.s (.b (.s .p (.b (.u hb5.ls)))) .p)),[⟨(ru2 5 ((.s (.o (.sl 0 0 (some 0) none)))::((.s (.o .unk))::((.s (.o (.int .i64)))::((.s (.o (.int .i64)))::(ru2 53 [])))))),[⟨27,3,true,none⟩],fun a H=>(⟨(toI (slT a 7))⟩,⟨0,(slN (slT a 5)),(toI (slT a 8)),(elT H 0)⟩)⟩,⟨(ru2 5 ((.s (.o .nil))::((.s (.o .unk))::((.s (.o (.int .i64)))::((.s (.o (.int .i64)))::(ru2 53 [])))))),[],fun a H=>(⟨(toI (slT a 7))⟩,⟨1,0,(toI (slT a 8)),[]⟩)⟩],ra3,[(none,fun p s=>⟨[(b true)],[]⟩),(some 4,fun p s=>⟨(ra 5 ((.sl 0 0 s.ns5 0)::(.unk::((i p.is7)::((i s.is8)::(ra 28 ((i s.is8)::((i p.is7)::((b (decide (s.is8 < p.is7)))::(ra 22 [])))))))))),[⟨27,3,s.eh0,true,false,0⟩]⟩),(some 4,fun p s=>⟨(ra 5 ((.v (.slice none 0 0))::(.unk::((i p.is7)::((i s.is8)::(ra 28 ((i s.is8)::((i p.is7)::((b (decide (s.is8 < p.is7)))::(ra 22 [])))))))))),[]⟩)],Dc5⟩
theorem Dc6:hb6.Ok:=Lo.ok [hb5.pr] (by kernel_rfl) (.cons Dc4 .nil) rfl (.cons (fun a H=>by kernel_rfl) (.cons (fun a H=>by kernel_rfl) .nil)) fun p s=>(.sel (Nat.beq s.ph 1) (.of @Qa7 (fun F _ _ _ _ _=>by unfold Qa7;(repeat' apply k8 (f:=F))<;>rfl) (by kernel_rfl)) (.of @U0 (fun F _ _ _ _ _=>by unfold U0;(repeat' apply k8 (f:=F))<;>rfl) (by kernel_rfl)))
structure P9 where
structure C3 where
 ph:Nat
 is7:Int
 ns5:Nat
 eh0:List (List b7)
noncomputable def sc3 (p:P9) (s:C3):St:=⟨(ra 5 ((.v (.slice none 0 0))::(.unk::((i s.is7)::(ra 54 []))))),[]⟩
noncomputable def sc4 (p:P9) (s:C3):St:=⟨(ra 5 ((.sl 0 0 s.ns5 0)::(.unk::((i s.is7)::(ra 54 []))))),[⟨27,3,s.eh0,true,false,0⟩]⟩
noncomputable def Dc7 (p:P9) (s:C3):St:=(sel (Nat.beq s.ph 1) (sc4 p s) (sc3 p s))
noncomputable def Qa8 {α:Type} (k:C3→α) (e:Nat→α) (z:α) (p:P9) (s:C3):α:=let t1:=(lp (ra3 (⟨s.is7⟩:P8)) (⟨1,0,0,[]⟩:C0));(sl (decide (s.is7 < 0)) (sl (Nat.beq t1.1 1) (e 1) (sl (Nat.beq t1.1 2) (k ⟨1,(W (s.is7+1)),t1.2.ns5,t1.2.eh0⟩) (sl (Nat.beq t1.1 3) (k ⟨0,(W (s.is7+1)),0,[]⟩) z))) (e 2))
noncomputable def U1 {α:Type} (k:C3→α) (e:Nat→α) (z:α) (p:P9) (s:C3):α:=let t1:=(lp (ra3 (⟨s.is7⟩:P8)) (⟨0,s.ns5,0,s.eh0⟩:C0));(sl (decide (s.is7 < (↑s.ns5:Int))) (sl (Nat.beq t1.1 1) (e 1) (sl (Nat.beq t1.1 2) (k ⟨1,(W (s.is7+1)),t1.2.ns5,t1.2.eh0⟩) (sl (Nat.beq t1.1 3) (k ⟨0,(W (s.is7+1)),0,[]⟩) z))) (e 3))
noncomputable def I0 (p:P9) (s:C3):Stp C3:=(sel (Nat.beq s.ph 1) (U1 .next .exit .fail p s) (Qa8 .next .exit .fail p s))
noncomputable def hb7:Lo P9 C3:=⟨En Ca5,0,Ed9,[1,1,1,0,1,4,4],[5,7],(.s .p (.s (.b (.s .p (.b (.u hb6.ls)))) .p)),[⟨(ru2 5 ((.s (.o .nil))::((.s (.o .unk))::((.s (.o (.int .i64)))::(ru2 54 []))))),[],fun a H=>(⟨⟩,⟨0,(toI (slT a 7)),0,[]⟩)⟩,⟨(ru2 5 ((.s (.o (.sl 0 0 (some 0) none)))::((.s (.o .unk))::((.s (.o (.int .i64)))::(ru2 54 []))))),[⟨27,3,true,none⟩],fun a H=>(⟨⟩,⟨1,(toI (slT a 7)),(slN (slT a 5)),(elT H 0)⟩)⟩],I0,[(none,fun p s=>⟨[(b true)],[]⟩),(some 2,fun p s=>⟨(ra 5 ((.v (.slice none 0 0))::(.unk::((i s.is7)::(ra 23 ((i s.is7)::((.v (.slice none 0 0))::((i 0)::((b (decide (s.is7 < 0)))::(ra 27 [])))))))))),[]⟩),(some 2,fun p s=>⟨(ra 5 ((.sl 0 0 s.ns5 0)::(.unk::((i s.is7)::(ra 23 ((i s.is7)::((.sl 0 0 s.ns5 0)::((i (↑s.ns5:Int))::((b (decide (s.is7 < (↑s.ns5:Int))))::(ra 27 [])))))))))),[⟨27,3,s.eh0,true,false,0⟩]⟩)],Dc7⟩
theorem Dc8:hb7.Ok:=Lo.ok [hb6.pr] (by kernel_rfl) (.cons Dc6 .nil) rfl (.cons (fun a H=>by kernel_rfl) (.cons (fun a H=>by kernel_rfl) .nil)) fun p s=>(.sel (Nat.beq s.ph 1) (.of @U1 (fun F _ _ _ _ _=>by unfold U1;(repeat' apply k8 (f:=F))<;>rfl) (by kernel_rfl)) (.of @Qa8 (fun F _ _ _ _ _=>by unfold Qa8;(repeat' apply k8 (f:=F))<;>rfl) (by kernel_rfl)))
noncomputable def Ma2 (x:List Pln) (y:V3):Option (b7×List c7):=let t1:=(lp (Fa3 (⟨(rt tP x),y.x,y.y,y.z⟩:W9)) (⟨0,0,0,[]⟩:w7));let t2:=(lp (I0 (⟨⟩:P9)) (⟨0,0,0,[]⟩:C3));let t3:=(lp (I0 (⟨⟩:P9)) (⟨1,0,t1.2.ns5,t1.2.eh1⟩:C3));(sl ((cnE tP x)&&true) (sl (Nat.beq t1.1 1) (sl (Nat.beq t2.1 1) (some ((b true),[])) (sl (Nat.beq t2.1 2) (some ((b false),[])) (sl (Nat.beq t2.1 3) (some ((b false),[])) none))) (sl (Nat.beq t1.1 2) (sl (Nat.beq t3.1 1) (some ((b true),[])) (sl (Nat.beq t3.1 2) (some ((b false),[])) (sl (Nat.beq t3.1 3) (some ((b false),[])) none))) none)) none)
noncomputable def Ma3 (x:List Pln) (y:V3):Bool:=M4 (one r1B) (Ma2 x y)
noncomputable def Ma4 (x:List Pln) (y:V3):Bool:=okO (one r1B) (Ma2 x y)
noncomputable def hc6:Sum:=ga1 (oa4 tP) (K9 tV) (fun x y=>.guard (Ma4 x y) (.ret ((one r1B).enc (Ma3 x y),[])))
theorem ed7:g9 prog G 136 hc6:=Oa2 (bd nf7 Vc1) (one r1B) (o:=Ma2) fun x y=>xa9 (.s .p (.s .p (.s (.s .p (.b (.u gb9.ls))) (.s (.s .p (.b (.u hb7.ls))) .p)))) [gb9.pr,hb7.pr] (by kernel_rfl) (.cons Dc2 (.cons Dc8 .nil)) (by kernel_rfl)
noncomputable def Jb1:List (Nat×Sum):=[(71,vc2),(136,hc6),(137,nd1)]
theorem Dc9:j9 prog G Jb1:=⟨td4,ed7,Ud4,trivial⟩
structure R3 where
 c8:List V3
 zb7:List Pln
structure u7 where
 ph:Nat
 is7:Int
 Wc9:List V3
noncomputable def hc7 (p:R3) (s:u7):St:=⟨((eL tV p.c8)::(ra 3 ((eL tP p.zb7)::(.unk::((.v (.slice none 0 0))::((i s.is7)::(ra 27 []))))))),[]⟩
noncomputable def hc8 (p:R3) (s:u7):St:=⟨((eL tV p.c8)::(ra 3 ((eL tP p.zb7)::(.unk::((eL tV s.Wc9)::((i s.is7)::(ra 27 []))))))),[]⟩
noncomputable def sc5 (p:R3) (s:u7):St:=(sel (Nat.beq s.ph 1) (hc8 p s) (hc7 p s))
noncomputable def Q0 {α:Type} (k:u7→α) (e:Nat→α) (z:α) (p:R3) (s:u7):α:=let t1:=(Ma3 (rt tP p.zb7) (gL tV p.c8 s.is7.toNat));let t2:=(Nb5 [] (gL tV p.c8 s.is7.toNat));(sl (decide (s.is7 < (↑(List.length p.c8):Int))) (sl (inB s.is7 (List.length p.c8)) (sl (okE tP p.zb7) (sl (Ma4 (rt tP p.zb7) (gL tV p.c8 s.is7.toNat)) (sl t1 (sl (inB s.is7 (List.length p.c8)) (sl (Nb6 [] (gL tV p.c8 s.is7.toNat)) (k ⟨1,(W (s.is7+1)),t2⟩) z) z) (k ⟨0,(W (s.is7+1)),[]⟩)) z) z) z) (e 1))
noncomputable def Q1 {α:Type} (k:u7→α) (e:Nat→α) (z:α) (p:R3) (s:u7):α:=let t1:=(Ma3 (rt tP p.zb7) (gL tV p.c8 s.is7.toNat));let t2:=(Nb5 (rt tV s.Wc9) (gL tV p.c8 s.is7.toNat));(sl (decide (s.is7 < (↑(List.length p.c8):Int))) (sl (inB s.is7 (List.length p.c8)) (sl (okE tP p.zb7) (sl (Ma4 (rt tP p.zb7) (gL tV p.c8 s.is7.toNat)) (sl t1 (sl (inB s.is7 (List.length p.c8)) (sl (okE tV s.Wc9) (sl (Nb6 (rt tV s.Wc9) (gL tV p.c8 s.is7.toNat)) (k ⟨1,(W (s.is7+1)),t2⟩) z) z) z) (k ⟨1,(W (s.is7+1)),s.Wc9⟩)) z) z) z) (e 2))
noncomputable def za2 (p:R3) (s:u7):Stp u7:=(sel (Nat.beq s.ph 1) (Q1 .next .exit .fail p s) (Q0 .next .exit .fail p s))
noncomputable def Xa6:Lo R3 u7:=⟨En Jb1,0,cf0,[1,1,1,1,0,1,4,4],[0,4,6,7],.p,[⟨((.s (.c 3 (nL tV)))::(ru2 3 ((.s (.c 4 (nL tP)))::((.s (.o .unk))::((.s (.o .nil))::((.s (.o (.int .i64)))::(ru2 27 []))))))),[],fun a H=>(⟨(rL tV (slT a 0)),(rL tP (slT a 4))⟩,⟨0,(toI (slT a 7)),[]⟩)⟩,⟨((.s (.c 3 (nL tV)))::(ru2 3 ((.s (.c 4 (nL tP)))::((.s (.o .unk))::((.s (.c 3 (nL tV)))::((.s (.o (.int .i64)))::(ru2 27 []))))))),[],fun a H=>(⟨(rL tV (slT a 0)),(rL tP (slT a 4))⟩,⟨1,(toI (slT a 7)),(rL tV (slT a 6))⟩)⟩],za2,[(some 0,fun p s=>⟨((eL tV p.c8)::(ra 3 ((eL tP p.zb7)::(.unk::((.v (.slice none 0 0))::((i s.is7)::(ra 8 ((i s.is7)::((eL tV p.c8)::((i (↑(List.length p.c8):Int))::((b (decide (s.is7 < (↑(List.length p.c8):Int))))::(ra 15 [])))))))))))),[]⟩),(some 0,fun p s=>⟨((eL tV p.c8)::(ra 3 ((eL tP p.zb7)::(.unk::((eL tV s.Wc9)::((i s.is7)::(ra 8 ((i s.is7)::((eL tV p.c8)::((i (↑(List.length p.c8):Int))::((b (decide (s.is7 < (↑(List.length p.c8):Int))))::(ra 15 [])))))))))))),[]⟩)],sc5⟩
theorem sc6:Xa6.Ok:=Lo.ok [] (by kernel_rfl) .nil rfl (.cons (fun a H=>by kernel_rfl) (.cons (fun a H=>by kernel_rfl) .nil)) fun p s=>(.sel (Nat.beq s.ph 1) (.of @Q1 (fun F _ _ _ _ _=>by unfold Q1;(repeat' apply k8 (f:=F))<;>rfl) (by kernel_rfl)) (.of @Q0 (fun F _ _ _ _ _=>by unfold Q0;(repeat' apply k8 (f:=F))<;>rfl) (by kernel_rfl)))
noncomputable def Ca6 (x:List V3):Option (b7×List c7):=let t1:=(Gb1 (rt tV x));let t2:=(lp (za2 (⟨(rt tV x),(rt tP t1.1)⟩:R3)) (⟨0,0,[]⟩:u7));(sl (okE tV x) (sl (Gb2 (rt tV x)) (sl (t1.2 != 0) (some ((.tup [(.v (.slice none 0 0)),(i t1.2)]),[])) (sl ((cnE tV x)&&((cnE tP t1.1)&&true)) (sl (Nat.beq t2.1 1) (some ((.tup [(.v (.slice none 0 0)),(i 0)]),[])) (sl (Nat.beq t2.1 2) (some ((.tup [(eL tV t2.2.Wc9),(i 0)]),[])) none)) none)) none) none)
noncomputable def Sa5 (x:List V3):List V3×Int:=M4 (two (r1L tV) r1I) (Ca6 x)
noncomputable def Sa6 (x:List V3):Bool:=okO (two (r1L tV) r1I) (Ca6 x)
noncomputable def Sb6:Sum:=V6 (oa4 tV) (fun x=>.guard (Sa6 x) (.ret ((two (r1L tV) r1I).enc (Sa5 x),[])))
theorem Vc2:g9 prog G 82 Sb6:=Ta2 (bd b82 Dc9) (two (r1L tV) r1I) (o:=Ca6) fun x=>xa9 (.s .p (.s .p (.s .p (.s .p (.s (.s .p (.b (.u Xa6.ls))) .p))))) [Xa6.pr] (by kernel_rfl) (.cons sc6 .nil) (by kernel_rfl)
noncomputable def Xb3:List (Nat×Sum):=[(80,jd7),(81,wc0),(82,Sb6)]
theorem Kd0:j9 prog G Xb3:=⟨Rd6,wd2,Vc2,trivial⟩
structure ja4 where
 c8:List V3
 q9:List V3
 is7:Int
structure D0 where
 ph:Nat
 is8:Int
 ns6:Nat
 eh0:List (List b7)
noncomputable def ed8 (p:ja4) (s:D0):St:=⟨((eL tV p.c8)::((eL tV p.q9)::(ra 4 ((.v (.slice none 0 0))::((i p.is7)::((i s.is8)::(ra 42 []))))))),[]⟩
noncomputable def ed9 (p:ja4) (s:D0):St:=⟨((eL tV p.c8)::((eL tV p.q9)::(ra 4 ((.sl 0 0 s.ns6 0)::((i p.is7)::((i s.is8)::(ra 42 []))))))),[⟨27,3,s.eh0,true,false,0⟩]⟩
noncomputable def wd5 (p:ja4) (s:D0):St:=(sel (Nat.beq s.ph 1) (ed9 p s) (ed8 p s))
noncomputable def la3 {α:Type} (k:D0→α) (e:Nat→α) (z:α) (p:ja4) (s:D0):α:=let t1:=(Mb3 (gL tV p.c8 p.is7.toNat) (gL tV p.q9 s.is8.toNat));let t2:=(Ua3 [] t1);(sl (decide (s.is8 < (↑(List.length p.q9):Int))) (sl (inB p.is7 (List.length p.c8)) (sl (inB s.is8 (List.length p.q9)) (sl (Ua4 [] t1) (sl (!t2) (k ⟨1,(W (s.is8+1)),1,[[(i t1.x),(i t1.y),(i t1.z)]]⟩) (k ⟨0,(W (s.is8+1)),0,[]⟩)) z) z) z) (e 1))
noncomputable def la4 {α:Type} (k:D0→α) (e:Nat→α) (z:α) (p:ja4) (s:D0):α:=let t1:=(Mb3 (gL tV p.c8 p.is7.toNat) (gL tV p.q9 s.is8.toNat));let t2:=(Ua3 (slR tV s.eh0 0 s.ns6) t1);(sl (decide (s.is8 < (↑(List.length p.q9):Int))) (sl (inB p.is7 (List.length p.c8)) (sl (inB s.is8 (List.length p.q9)) (sl (okS tV s.eh0 0 s.ns6) (sl (Ua4 (slR tV s.eh0 0 s.ns6) t1) (sl (!t2) (sl (Nat.beq s.ns6 (len s.eh0)&&Nat.ble ((s.ns6+1)*24) room) (k ⟨1,(W (s.is8+1)),(s.ns6+1),(app s.eh0 [[(i t1.x),(i t1.y),(i t1.z)]])⟩) z) (k ⟨1,(W (s.is8+1)),s.ns6,s.eh0⟩)) z) z) z) z) (e 2))
noncomputable def pa4 (p:ja4) (s:D0):Stp D0:=(sel (Nat.beq s.ph 1) (la4 .next .exit .fail p s) (la3 .next .exit .fail p s))
noncomputable def Jb2:Lo ja4 D0:=⟨En Xb3,0,Te7,[1,1,1,0,1,4,4,1,0,4,1,4,4],[0,1,6,7,8],.p,[⟨((.s (.c 3 (nL tV)))::((.s (.c 3 (nL tV)))::(ru2 4 ((.s (.o .nil))::((.s (.o (.int .i64)))::((.s (.o (.int .i64)))::(ru2 42 []))))))),[],fun a H=>(⟨(rL tV (slT a 0)),(rL tV (slT a 1)),(toI (slT a 7))⟩,⟨0,(toI (slT a 8)),0,[]⟩)⟩,⟨((.s (.c 3 (nL tV)))::((.s (.c 3 (nL tV)))::(ru2 4 ((.s (.o (.sl 0 0 (some 0) none)))::((.s (.o (.int .i64)))::((.s (.o (.int .i64)))::(ru2 42 []))))))),[⟨27,3,true,none⟩],fun a H=>(⟨(rL tV (slT a 0)),(rL tV (slT a 1)),(toI (slT a 7))⟩,⟨1,(toI (slT a 8)),(slN (slT a 6)),(elT H 0)⟩)⟩],pa4,[(some 2,fun p s=>⟨((eL tV p.c8)::((eL tV p.q9)::(ra 4 ((.v (.slice none 0 0))::((i p.is7)::((i s.is8)::(ra 15 ((i s.is8)::((eL tV p.q9)::((i (↑(List.length p.q9):Int))::((b (decide (s.is8 < (↑(List.length p.q9):Int))))::(ra 23 [])))))))))))),[]⟩),(some 2,fun p s=>⟨((eL tV p.c8)::((eL tV p.q9)::(ra 4 ((.sl 0 0 s.ns6 0)::((i p.is7)::((i s.is8)::(ra 15 ((i s.is8)::((eL tV p.q9)::((i (↑(List.length p.q9):Int))::((b (decide (s.is8 < (↑(List.length p.q9):Int))))::(ra 23 [])))))))))))),[⟨27,3,s.eh0,true,false,0⟩]⟩)],wd5⟩
theorem wd6:Jb2.Ok:=Lo.ok [] (by kernel_rfl) .nil rfl (.cons (fun a H=>by kernel_rfl) (.cons (fun a H=>by kernel_rfl) .nil)) fun p s=>(.sel (Nat.beq s.ph 1) (.of @la4 (fun F _ _ _ _ _=>by unfold la4;(repeat' apply k8 (f:=F))<;>rfl) (by kernel_rfl)) (.of @la3 (fun F _ _ _ _ _=>by unfold la3;(repeat' apply k8 (f:=F))<;>rfl) (by kernel_rfl)))
structure oa3 where
structure H6 where
 ph:Nat
 c8:List V3
 q9:List V3
 is7:Int
 ns6:Nat
 eh0:List (List b7)
noncomputable def fd0 (p:oa3) (s:H6):St:=⟨((eL tV s.c8)::((eL tV s.q9)::(ra 4 ((.v (.slice none 0 0))::((i s.is7)::(ra 43 [])))))),[]⟩
noncomputable def fd1 (p:oa3) (s:H6):St:=⟨((eL tV s.c8)::((eL tV s.q9)::(ra 4 ((.sl 0 0 s.ns6 0)::((i s.is7)::(ra 43 [])))))),[⟨27,3,s.eh0,true,false,0⟩]⟩
noncomputable def wd7 (p:oa3) (s:H6):St:=(sel (Nat.beq s.ph 1) (fd1 p s) (fd0 p s))
noncomputable def la5 {α:Type} (k:H6→α) (e:Nat→α) (z:α) (p:oa3) (s:H6):α:=let t1:=(lp (pa4 (⟨(rt tV s.c8),(rt tV s.q9),s.is7⟩:ja4)) (⟨0,0,0,[]⟩:D0));(sl (decide (s.is7 < (↑(List.length s.c8):Int))) (sl ((cnE tV s.c8)&&((cnE tV s.q9)&&true)) (sl (Nat.beq t1.1 1) (k ⟨0,(rt tV s.c8),(rt tV s.q9),(W (s.is7+1)),0,[]⟩) (sl (Nat.beq t1.1 2) (k ⟨1,(rt tV s.c8),(rt tV s.q9),(W (s.is7+1)),t1.2.ns6,t1.2.eh0⟩) z)) z) (e 1))
noncomputable def la6 {α:Type} (k:H6→α) (e:Nat→α) (z:α) (p:oa3) (s:H6):α:=let t1:=(lp (pa4 (⟨(rt tV s.c8),(rt tV s.q9),s.is7⟩:ja4)) (⟨1,0,s.ns6,s.eh0⟩:D0));(sl (decide (s.is7 < (↑(List.length s.c8):Int))) (sl ((cnE tV s.c8)&&((cnE tV s.q9)&&true)) (sl (Nat.beq t1.1 1) (k ⟨0,(rt tV s.c8),(rt tV s.q9),(W (s.is7+1)),0,[]⟩) (sl (Nat.beq t1.1 2) (k ⟨1,(rt tV s.c8),(rt tV s.q9),(W (s.is7+1)),t1.2.ns6,t1.2.eh0⟩) z)) z) (e 2))
noncomputable def ab7 (p:oa3) (s:H6):Stp H6:=(sel (Nat.beq s.ph 1) (la6 .next .exit .fail p s) (la5 .next .exit .fail p s))
noncomputable def Jb3:Lo oa3 H6:=⟨En Xb3,0,Te7,[1,1,1,0,1,4,4],[0,1,6,7],(.s .p (.s (.b (.s .p (.b (.u Jb2.ls)))) .p)),[⟨((.s (.c 3 (nL tV)))::((.s (.c 3 (nL tV)))::(ru2 4 ((.s (.o .nil))::((.s (.o (.int .i64)))::(ru2 43 [])))))),[],fun a H=>(⟨⟩,⟨0,(rL tV (slT a 0)),(rL tV (slT a 1)),(toI (slT a 7)),0,[]⟩)⟩,⟨((.s (.c 3 (nL tV)))::((.s (.c 3 (nL tV)))::(ru2 4 ((.s (.o (.sl 0 0 (some 0) none)))::((.s (.o (.int .i64)))::(ru2 43 [])))))),[⟨27,3,true,none⟩],fun a H=>(⟨⟩,⟨1,(rL tV (slT a 0)),(rL tV (slT a 1)),(toI (slT a 7)),(slN (slT a 6)),(elT H 0)⟩)⟩],ab7,[(some 0,fun p s=>⟨((eL tV s.c8)::((eL tV s.q9)::(ra 4 ((.v (.slice none 0 0))::((i s.is7)::(ra 10 ((i s.is7)::((eL tV s.c8)::((i (↑(List.length s.c8):Int))::((b (decide (s.is7 < (↑(List.length s.c8):Int))))::(ra 29 []))))))))))),[]⟩),(some 0,fun p s=>⟨((eL tV s.c8)::((eL tV s.q9)::(ra 4 ((.sl 0 0 s.ns6 0)::((i s.is7)::(ra 10 ((i s.is7)::((eL tV s.c8)::((i (↑(List.length s.c8):Int))::((b (decide (s.is7 < (↑(List.length s.c8):Int))))::(ra 29 []))))))))))),[⟨27,3,s.eh0,true,false,0⟩]⟩)],wd7⟩
theorem wd8:Jb3.Ok:=Lo.ok [Jb2.pr] (by kernel_rfl) (.cons wd6 .nil) rfl (.cons (fun a H=>by kernel_rfl) (.cons (fun a H=>by kernel_rfl) .nil)) fun p s=>(.sel (Nat.beq s.ph 1) (.of @la6 (fun F _ _ _ _ _=>by unfold la6;(repeat' apply k8 (f:=F))<;>rfl) (by kernel_rfl)) (.of @la5 (fun F _ _ _ _ _=>by unfold la5;(repeat' apply k8 (f:=F))<;>rfl) (by kernel_rfl)))
noncomputable def tb0 (x:List V3) (y:List V3):Option (b7×List c7):=let t1:=(lp (ab7 (⟨⟩:oa3)) (⟨0,(rt tV x),(rt tV y),0,0,[]⟩:H6));let t2:=(Sa5 []);let t3:=(Sa5 (slR tV t1.2.eh0 0 t1.2.ns6));(sl (decide ((↑(List.length x):Int) > 48)) (some ((.tup [(.v (.slice none 0 0)),(i 2)]),[])) (sl (decide ((↑(List.length y):Int) > 48)) (some ((.tup [(.v (.slice none 0 0)),(i 2)]),[])) (sl ((cnE tV x)&&((cnE tV y)&&true)) (sl (Nat.beq t1.1 1) (sl (Sa6 []) (some ((.tup [(eL tV t2.1),(i t2.2)]),[])) none) (sl (Nat.beq t1.1 2) (sl (okS tV t1.2.eh0 0 t1.2.ns6) (sl (Sa6 (slR tV t1.2.eh0 0 t1.2.ns6)) (some ((.tup [(eL tV t3.1),(i t3.2)]),[])) none) none) none)) none)))
noncomputable def Nb7 (x:List V3) (y:List V3):List V3×Int:=M4 (two (r1L tV) r1I) (tb0 x y)
noncomputable def Nb8 (x:List V3) (y:List V3):Bool:=okO (two (r1L tV) r1I) (tb0 x y)
noncomputable def nd2:Sum:=ga1 (oa4 tV) (oa4 tV) (fun x y=>.guard (Nb8 x y) (.ret ((two (r1L tV) r1I).enc (Nb7 x y),[])))
theorem Ud5:g9 prog G 29 nd2:=Oa2 (bd b29 Kd0) (two (r1L tV) r1I) (o:=tb0) fun x y=>xa9 (.s .p (.s .p (.s .p (.s (.s .p (.b (.u Jb3.ls))) .p)))) [Jb3.pr] (by kernel_rfl) (.cons wd8 .nil) (by kernel_rfl)
noncomputable def Jb4:List (Nat×Sum):=[(84,qb1)]
theorem Ec0:j9 prog G Jb4:=⟨vb7,trivial⟩
structure ra4 where
 c8:List V3
 d6:Int
 b8:Int
 d8:Int
structure R4 where
 is6:Int
 is7:Int
noncomputable def sc7 (p:ra4) (s:R4):St:=⟨((eL tV p.c8)::(.unk::(.unk::((.ptr 0 0 0 0)::(.unk::(.unk::((i s.is6)::((i s.is7)::(ra 23 []))))))))),[⟨0,3,[[(i p.d6),(i p.b8),(i p.d8)]],true,false,0⟩]⟩
noncomputable def ja5 {α:Type} (k:R4→α) (e:Nat→α) (z:α) (p:ra4) (s:R4):α:=let t1:=(da2 (gL tV p.c8 s.is7.toNat) (⟨p.d6,p.b8,p.d8⟩:V3));(sl (decide (s.is7 < (↑(List.length p.c8):Int))) (sl (inB s.is7 (List.length p.c8)) (k ⟨(if t1 > s.is6 then t1 else s.is6),(W (s.is7+1))⟩) z) (e 1))
noncomputable def da8 (p:ra4) (s:R4):Stp R4:=ja5 .next .exit .fail p s
noncomputable def Xa7:Lo ra4 R4:=⟨En Jb4,0,bf8,[1,1,1,0,1,4,4],[0,3,6,7],.p,[⟨((.s (.c 3 (nL tV)))::((.s (.o .unk))::((.s (.o .unk))::((.s (.o (.ptr 0 0 0 0)))::((.s (.o .unk))::((.s (.o .unk))::((.s (.o (.int .i64)))::((.s (.o (.int .i64)))::(ru2 23 []))))))))),[⟨0,3,true,(some [[(.o (.int .i64)),(.o (.int .i64)),(.o (.int .i64))]])⟩],fun a H=>(⟨(rL tV (slT a 0)),(toI (slT (rwT (elT H 0) 0) 0)),(toI (slT (rwT (elT H 0) 0) 1)),(toI (slT (rwT (elT H 0) 0) 2))⟩,⟨(toI (slT a 6)),(toI (slT a 7))⟩)⟩],da8,[(some 0,fun p s=>⟨((eL tV p.c8)::(.unk::(.unk::((.ptr 0 0 0 0)::(.unk::(.unk::((i s.is6)::((i s.is7)::(ra 8 ((i s.is7)::((eL tV p.c8)::((i (↑(List.length p.c8):Int))::((b (decide (s.is7 < (↑(List.length p.c8):Int))))::(ra 11 [])))))))))))))),[⟨0,3,[[(i p.d6),(i p.b8),(i p.d8)]],true,false,0⟩]⟩)],sc7⟩
theorem sc8:Xa7.Ok:=Lo.ok [] (by kernel_rfl) .nil rfl (.cons (fun a H=>by kernel_rfl) .nil) fun p s=>(.of @ja5 (fun F _ _ _ _ _=>by unfold ja5;(repeat' apply k8 (f:=F))<;>rfl) (by kernel_rfl))
noncomputable def Ca7 (x:List V3) (y:V3):Option (b7×List c7):=let t1:=(da2 (gL tV x 0) y);let t2:=(lp (da8 (⟨(rt tV x),y.x,y.y,y.z⟩:ra4)) (⟨t1,0⟩:R4));(sl ((↑(List.length x):Int)==0) (some ((.tup [(i 0),(b false)]),[])) (sl (inB 0 (List.length x)) (sl ((cnE tV x)&&true) (sl (Nat.beq t2.1 1) (some ((.tup [(i t2.2.is6),(b true)]),[])) none) none) none))
noncomputable def Sa7 (x:List V3) (y:V3):Int×Bool:=M4 (two r1I r1B) (Ca7 x y)
noncomputable def Sa8 (x:List V3) (y:V3):Bool:=okO (two r1I r1B) (Ca7 x y)
noncomputable def Sb7:Sum:=ga1 (oa4 tV) (K9 tV) (fun x y=>.guard (Sa8 x y) (.ret ((two r1I r1B).enc (Sa7 x y),[])))
theorem Vc3:g9 prog G 32 Sb7:=Oa2 (bd b32 Ec0) (two r1I r1B) (o:=Ca7) fun x y=>xa9 (.s .p (.s .p (.s .p (.s (.s .p (.b (.u Xa7.ls))) .p)))) [Xa7.pr] (by kernel_rfl) (.cons sc8 .nil) (by kernel_rfl)
noncomputable def zb5:List (Nat×Sum):=[]
theorem sc9:j9 prog G zb5:=trivial
structure na5 where
 c8:List V3
 q9:List V3
structure I7 where
 is5:Int
noncomputable def hc9 (p:na5) (s:I7):St:=⟨((eL tV p.c8)::((eL tV p.q9)::(ra 3 ((i s.is5)::(ra 20 []))))),[]⟩
noncomputable def fa3 {α:Type} (k:I7→α) (e:Nat→α) (z:α) (p:na5) (s:I7):α:=(sl (decide (s.is5 < (↑(List.length p.c8):Int))) (sl (inB s.is5 (List.length p.c8)) (sl (inB s.is5 (List.length p.q9)) (sl (!(((gL tV p.c8 s.is5.toNat).x==(gL tV p.q9 s.is5.toNat).x)&&(((gL tV p.c8 s.is5.toNat).y==(gL tV p.q9 s.is5.toNat).y)&&(((gL tV p.c8 s.is5.toNat).z==(gL tV p.q9 s.is5.toNat).z)&&true)))) (e 1) (k ⟨(W (s.is5+1))⟩)) z) z) (e 2))
noncomputable def ja6 (p:na5) (s:I7):Stp I7:=fa3 .next .exit .fail p s
noncomputable def Qa9:Lo na5 I7:=⟨En zb5,0,bf6,[1,1,0,1,4,4],[0,1,5],.p,[⟨((.s (.c 3 (nL tV)))::((.s (.c 3 (nL tV)))::(ru2 3 ((.s (.o (.int .i64)))::(ru2 20 []))))),[],fun a H=>(⟨(rL tV (slT a 0)),(rL tV (slT a 1))⟩,⟨(toI (slT a 5))⟩)⟩],ja6,[(none,fun p s=>⟨[(b false)],[]⟩),(some 0,fun p s=>⟨((eL tV p.c8)::((eL tV p.q9)::(ra 3 ((i s.is5)::(ra 5 ((i s.is5)::((eL tV p.c8)::((i (↑(List.length p.c8):Int))::((b (decide (s.is5 < (↑(List.length p.c8):Int))))::(ra 11 [])))))))))),[]⟩)],hc9⟩
theorem ic0:Qa9.Ok:=Lo.ok [] (by kernel_rfl) .nil rfl (.cons (fun a H=>by kernel_rfl) .nil) fun p s=>(.of @fa3 (fun F _ _ _ _ _=>by unfold fa3;(repeat' apply k8 (f:=F))<;>rfl) (by kernel_rfl))
noncomputable def wa8 (x:List V3) (y:List V3):Option (b7×List c7):=let t1:=(lp (ja6 (⟨(rt tV x),(rt tV y)⟩:na5)) (⟨0⟩:I7));(sl ((↑(List.length x):Int) != (↑(List.length y):Int)) (some ((b false),[])) (sl ((cnE tV x)&&((cnE tV y)&&true)) (sl (Nat.beq t1.1 1) (some ((b false),[])) (sl (Nat.beq t1.1 2) (some ((b true),[])) none)) none))
noncomputable def na6 (x:List V3) (y:List V3):Bool:=M4 (one r1B) (wa8 x y)
noncomputable def na7 (x:List V3) (y:List V3):Bool:=okO (one r1B) (wa8 x y)
noncomputable def hb8:Sum:=ga1 (oa4 tV) (oa4 tV) (fun x y=>.guard (na7 x y) (.ret ((one r1B).enc (na6 x y),[])))
theorem zb6:g9 prog G 30 hb8:=Oa2 (bd b30 sc9) (one r1B) (o:=wa8) fun x y=>xa9 (.s .p (.s .p (.s (.s .p (.b (.u Qa9.ls))) .p))) [Qa9.pr] (by kernel_rfl) (.cons ic0 .nil) (by kernel_rfl)
structure Be1 where
 c8:List V3
 d6:Int
 b8:Int
 d8:Int
structure Be2 where
 ph:Nat
 is6:Int
 ns5:Nat
 eh1:List (List b7)
structure le5 where
 d6:Int
 b8:Int
 d8:Int
structure le6 where
 ph:Nat
 is4:Int
 ns3:Nat
 eh1:List (List b7)
end Go.Ev.Ce
end
namespace Go.Ev
open Go Go.ChangeShapes Go.RowKit
structure Vc4 (w w':World):Prop where
 os:w'.os=w.os
 output:w'.output=w.output
 size:w.heap.size≤w'.heap.size
 block:∀ k,k < w.heap.size→w'.heap[k]?=w.heap[k]?
theorem Vc4.kept {w w':World} (h:Vc4 w w') (may:MemPlace→Prop):w.keptBut w' may:=by
 refine⟨h.os,h.output,fun i hi=>?_⟩
 rw[h.block i hi]
 cases w.heap[i]? with
 | none=>rfl
 | some o=>cases o<;>first | exact⟨rfl,rfl,rfl,fun _ _=>rfl⟩ | exact .inr ⟨rfl,rfl⟩ | rfl
theorem Vc4.frozen {w w':World} (h:Vc4 w w') (b off:Nat) (hb:b < w.heap.size):w'.frozen? ⟨b,off,none⟩=w.frozen? ⟨b,off,none⟩:=by
 simp only[World.frozen?,h.block b hb]
theorem Vc4.cell {w w':World} (h:Vc4 w w') (b off:Nat) (hb:b < w.heap.size):w'.cell? ⟨b,off,none⟩=w.cell? ⟨b,off,none⟩:=by
 simp only[World.cell?,h.block b hb]
theorem Vc4.same {w w':World} (h:Vc4 w w') (p:MemPlace) (hp:p.block < w.heap.size):w.sameAt w' p:=by
 cases p with
 | cell b off=>exact h.cell b off hp
 | map b=>exact h.block b hp
theorem Jb5 {α β:Type} {f:α→Option β}:∀ {l:List α} {r:List β},l.mapM f=some r→r.length=l.length∧∀ (j:Nat) y,r[j]?=some y→∃ x,l[j]?=some x∧f x=some y
 | [],r,h=>by
  have:r=[]:=by simpa using h.symm
  subst this;simp
 | x::l,r,h=>by
  rw[List.mapM_cons] at h
  obtain⟨y,h1,h2⟩:=Option.bind_eq_some_iff.1 h
  obtain⟨r',h3,h4⟩:=Option.bind_eq_some_iff.1 h2
  have:r=y::r':=by simpa using h4.symm
  subst this
  obtain⟨g1,g2⟩:=Jb5 h3
  refine⟨by simp[g1],fun j z hz=>?_⟩
  cases j with
  | zero=>simp at hz;subst hz;exact⟨x,rfl,h1⟩
  | succ j=>simpa using g2 j z (by simpa using hz)
section
variable {D:Type} {enc:TypeId×Value→D} {P:Program}
theorem Sb8 {T : TypeId → Prop} (K : Kids P T) (hsz : ∀ {t e : TypeId}, T t → P.underlying t = some (.slice e) → 0 < P.cellsOf e) {w w' : World} {sp : Nat → Bool} (hs : Vc4 w w') :
  ∀ {ts:List TypeId} {vs:List Value} {ds:List (DataW D)} {ps:List MemPlace},(∀ t∈ts,T t)→DataW.TrodAll enc P w 0 (fun _=>true) true ts vs ds ps→(∀ p∈ps,p.block < w.heap.size)→(∀ p∈ps,sp p.block=true)→DataW.TrodAll enc P w' 0 sp true ts vs ds ps
 | [],[],[],_,_,h,_,_=>h
 | t::ts,v::vs,d::ds,ps,ht,h,hlt,hsp=>by
  obtain⟨p,q,⟨fuel,h1⟩,h2,rfl⟩:=h
  refine⟨p,q,⟨fuel,?_⟩,Sb8 K hsz hs (fun t h=>ht t (by simp[h])) h2 (fun x hx=>hlt x (by simp[hx])) (fun x hx=>hsp x (by simp[hx])),rfl⟩
  exact DataW.trod_stays K hsz (fun h=>by cases h) (ht t (by simp)) h1 (fun x hx=>hs.same x (hlt x (by simp at hx ⊢;exact .inl hx))) (fun x hx=>hsp x (by simp at hx ⊢;exact .inl hx))
 | [],_::_,_,_,_,h,_,_=>h.elim
 | [],[],_::_,_,_,h,_,_=>h.elim
 | _::_,[],_,_,_,h,_,_=>h.elim
 | _::_,_::_,[],_,_,h,_,_=>h.elim
theorem xe5 {T : TypeId → Prop} (K : Kids P T) (hsz : ∀ {t e : TypeId}, T t → P.underlying t = some (.slice e) → 0 < P.cellsOf e) {f : Func} {s : ChangeSpec} {apart fresh handsOn again : Bool} {W W' : World} {args : Array Value} {ds gs : List (DataW D)} {before : List MemPlace} {tb : TypeId}
  (hT:∀ t∈f.params.toList,T t) (hW:DataW.Whole enc P f.params.toList s.vars apart W args.toList ds gs before) (hv:s.vars=[]) (hr:f.resultTypes=#[tb]) (hb:P.underlying tb=some .bool)
  (h1:(s.fn D ds).results=[.lit (.bool true)]) (h2:(s.fn D ds).args=ds) (h3:(s.fn D ds).vars=[]) (hs:Vc4 W W') :
  s.post enc P f apart fresh handsOn again W args (.bool true) W':=by
 have hlt:=hW.lt
 obtain⟨pa,pv,hA,hV,hps,hz,hn⟩:=id hW
 rw[hv] at hV
 have hpv:gs=[]∧pv=[]:=by
  cases gs with
  | nil=>exact⟨rfl,hV⟩
  | cons=>exact hV.elim
 obtain⟨rfl,rfl⟩:=hpv
 rw[← List.append_nil ds] at h1 h3
 have h2:(s.fn D (ds++[])).args=ds:=by rw[List.append_nil];exact h2
 have hpa:before=pa:=by rw[hps];simp
 subst hpa
 have hagain:∀ sp:Nat→Bool,(∀ p∈before,sp p.block=true)→DataW.TrodAll enc P W' 0 sp true f.params.toList args.toList ds before:=fun sp h=>Sb8 K hsz hs hT hA hlt h
 have hres:∀ (b:Nat) (sp:Nat→Bool) (hd:Bool),DataW.TrodAll enc P W' b sp hd f.resultTypes.toList ((Value.bool true).resultList f.resultTypes.size) [.lit (.bool true)] []:=fun b sp hd=>by
  rw[hr]
  exact⟨[],[],⟨1,by simp[DataW.trod,hb,Value.cells,Value.resultList]⟩,rfl,rfl⟩
 have hvars:∀ sp:Nat→Bool,DataW.TrodVars enc P W' sp s.vars ([]:List (DataW D)) []:=fun sp=>by rw[hv];exact rfl
 have hok:∀ (j:Nat) (t:TypeId) (r:Value),f.resultTypes[j]?=some t→((Value.bool true).resultList f.resultTypes.size)[j]?=some r→Value.okWide P W' .any 0 t r:=by
  rw[hr]
  intro j t r h4 h5
  cases j with
  | zero =>
   simp at h4
   subst h4
   have:r=.bool true:=by simpa [Value.resultList] using h5.symm
   subst this
   exact okWide_bool_mk hb _
  | succ j=>simp at h4
 have hag:DataW.TrodAll enc P W' 0 (fun _=>true) true (f.resultTypes.toList++f.params.toList) ((Value.bool true).resultList f.resultTypes.size++args.toList) (.lit (.bool true)::ds) before:=by
  have:=hagain (fun _=>true) (fun _ _=>rfl)
  rw[hr]
  exact⟨[],before,⟨1,by simp[DataW.trod,hb,Value.cells,Value.resultList]⟩,this,rfl⟩
 refine⟨ds,[],before,[],before,[],hW,?_,?_,?_,hs.kept _,fun _=>?_⟩
 ·rw[h1];exact hres _ _ _
 ·rw[h2];exact hagain _ fun p hp=>by simpa using hlt p hp
 ·rw[h3];exact hvars _
 ·refine⟨hok,.lit (.bool true)::ds,[],before,⟨before,[],hag,hvars _,by simp,?_,?_⟩,?_⟩
  ·intro b off hp
   rw[hs.frozen b off (hlt _ hp)]
   exact hz b off (by simpa using hp)
  ·intro ha;simpa using hn ha
  ·intro p hp _;exact hp
variable {w:World} {base:Nat} {spare:Nat→Bool} {held:Bool}
def fd2 (w:World):Fz:=fun b o=>(w.cell? ⟨b,o,none⟩).isSome
theorem Ye3 {fuel : Nat} {t : TypeId} {k : IntKind} {cs : List Value} {x : DataW D × List MemPlace} (ht : P.underlying t = some (.int k)) (h : DataW.trod enc P w base spare held fuel t cs = some x) :
  ∃ n,cs=[.int k n]∧(Lit.int k n).wf=true∧x.1=.lit (.int k n):=by
 cases fuel with
 | zero=>cases h
 | succ fuel =>
  match cs,h with
  | [],h=>simp[DataW.trod,ht] at h
  | [v],h =>
   cases v with
   | int k' n =>
    simp only[DataW.trod,ht] at h
    split at h
    ·rename_i hk
     obtain⟨rfl,hw⟩:=hk
     injection h with h;subst h
     exact⟨n,rfl,hw,rfl⟩
    ·cases h
   | _=>simp[DataW.trod,ht] at h
  | a::b::r,h=>simp[DataW.trod,ht] at h
theorem Ke7 {fuel : Nat} {t : TypeId} {cs : List Value} {x : DataW D × List MemPlace} (ht : P.underlying t = some .bool) (h : DataW.trod enc P w base spare held fuel t cs = some x) :
  ∃ n,cs=[.bool n]∧x.1=.lit (.bool n):=by
 cases fuel with
 | zero=>cases h
 | succ fuel =>
  match cs,h with
  | [],h=>simp[DataW.trod,ht] at h
  | [v],h =>
   cases v with
   | bool n =>
    simp only[DataW.trod,ht] at h
    injection h with h;subst h
    exact⟨n,rfl,rfl⟩
   | _=>simp[DataW.trod,ht] at h
  | a::b::r,h=>simp[DataW.trod,ht] at h
theorem Kd1 {fuel : Nat} {t e : TypeId} {n : Nat} {cs : List Value} {x : DataW D × List MemPlace} (ht : P.underlying t = some (.array n e)) (h : DataW.trod enc P w base spare held fuel t cs = some x) :
  cs.length=P.cellsOf t∧∃ (fuel':Nat) (xs:List (DataW D×List MemPlace)),xs.length=n∧x.1=.agg (xs.map (·.1))∧∀ (j:Nat) y,xs[j]?=some y→DataW.trod enc P w base spare held fuel' e ((cs.drop (j*P.cellsOf e)).take (P.cellsOf e))=some y:=by
 cases fuel with
 | zero=>cases h
 | succ fuel =>
  unfold DataW.trod at h
  rw[ht] at h
  simp only at h
  split at h
  ·rename_i hl
   obtain⟨xs,h1,h2⟩:=Option.map_eq_some_iff.1 h
   have hx:=Jb5 h1
   exact⟨hl,fuel,xs,by simpa using hx.1,by rw[← h2],fun j y hy=>by
    obtain⟨a,ha,hb⟩:=hx.2 j y hy
    have:j < n:=by
     have:=(List.getElem?_eq_some_iff.1 hy).1
     rw[hx.1] at this;simpa using this
    rw[List.getElem?_range this] at ha
    injection ha with ha
    subst ha
    exact hb⟩
  ·cases h
theorem je4 {fuel : Nat} {t : TypeId} {fs : Array Field} {cs : List Value} {x : DataW D × List MemPlace} (ht : P.underlying t = some (.struct fs)) (h : DataW.trod enc P w base spare held fuel t cs = some x) :
  cs.length=P.cellsOf t∧∃ (fuel':Nat) (xs:List (DataW D×List MemPlace)),xs.length=fs.size∧x.1=.agg (xs.map (·.1))∧∀ (j:Nat) f,fs[j]?=some f→∃ y,xs[j]?=some y∧DataW.trod enc P w base spare held fuel' f.type ((cs.drop f.offset).take (P.cellsOf f.type))=some y:=by
 cases fuel with
 | zero=>cases h
 | succ fuel =>
  unfold DataW.trod at h
  rw[ht] at h
  simp only at h
  split at h
  ·rename_i hl
   obtain⟨xs,h1,h2⟩:=Option.map_eq_some_iff.1 h
   have hx:=Jb5 h1
   refine⟨hl,fuel,xs,by simpa using hx.1,by rw[← h2],fun j f hf=>?_⟩
   have hj:j < xs.length:=by
    rw[hx.1];simpa using (Array.getElem?_eq_some_iff.1 hf).1
   obtain⟨a,ha,hb⟩:=hx.2 j _ (List.getElem?_eq_getElem hj)
   have:a=f:=by
    have:fs.toList[j]?=some f:=by simpa using hf
    exact Option.some.inj (ha.symm.trans this)
   subst this
   exact⟨_,List.getElem?_eq_getElem hj,hb⟩
  ·cases h
theorem xe6 {fuel : Nat} {t e : TypeId} {cs : List Value} {x : DataW D × List MemPlace} (ht : P.underlying t = some (.slice e)) (h : DataW.trod enc P w base spare held fuel t cs = some x) :
  cs=[.slice none 0 0]∨∃ (a:Addr) (n cap fuel':Nat),cs=[.slice (some a) n cap]∧n≤cap∧cap≤maxLen∧∀ j,j < n→∃ row y,w.cells? base (a.add (j*P.cellsOf e)) (P.cellsOf e)=some row∧DataW.trod enc P w base spare held fuel' e row=some y:=by
 cases fuel with
 | zero=>cases h
 | succ fuel =>
  match cs,h with
  | [],h=>simp[DataW.trod,ht] at h
  | [v],h =>
   cases v with
   | slice a len cap =>
    cases a with
    | none =>
     simp only[DataW.trod,ht] at h
     split at h<;>first | (rename_i e1;cases e1;done) | skip
     all_goals first | exact .inl rfl | (simp_all;done) | skip
    | some a =>
     refine .inr ?_
     simp only[DataW.trod,ht] at h
     split at h
     ·rename_i hc
      obtain⟨elems,h1,h2⟩:=Option.bind_eq_some_iff.1 h
      have hx:=Jb5 h1
      refine⟨a,len,cap,fuel,rfl,hc.2.1,hc.2.2,fun j hj=>?_⟩
      have hj':j < elems.length:=by rw[hx.1];simpa using hj
      obtain⟨i,hi,hb⟩:=hx.2 j _ (List.getElem?_eq_getElem hj')
      rw[List.getElem?_range hj] at hi
      injection hi with hi
      subst hi
      obtain⟨row,r1,r2⟩:=Option.bind_eq_some_iff.1 hb
      exact⟨row,_,r1,r2⟩
     ·cases h
   | _=>simp[DataW.trod,ht] at h
  | a::b::r,h=>simp[DataW.trod,ht] at h
theorem be4:∀ (d:Nat) (t:TypeId) (l:List (Nat×CK)),V4 P d t=some l→∀ (fuel:Nat) (cs:List Value) (x:DataW D×List MemPlace),DataW.trod enc P w base spare held fuel t cs=some x→∀ p∈l,xa6 cs.toArray p
 | 0,_,_,h,_,_,_,_=>by cases h
 | d+1,t,l,h,fuel,cs,x,hx=>by
  have hpart:∀ {off n:Nat} {e:TypeId} {l':List (Nat×CK)} {fuel':Nat} {y:DataW D×List MemPlace},Bb4 off n (V4 P d e)=some l'→DataW.trod enc P w base spare held fuel' e ((cs.drop off).take n)=some y→∀ p∈l',xa6 cs.toArray p:=fun {off n e l' fuel' y} h1 h2 p hp=>by
   obtain⟨l2,g1,g2,rfl⟩:=Ga7 h1
   obtain⟨q,hq,rfl⟩:=List.mem_map.1 hp
   have:=be4 d e l2 g1 fuel' _ y h2 q hq
   have hlt:=g2 q hq
   unfold xa6 at this ⊢
   simp only[List.getElem?_toArray,List.getElem?_take,hlt,if_true,List.getElem?_drop] at this ⊢
   exact this
  have hcat:∀ {α:Type} (f:α→Option (List (Nat×CK))) (xs:List α) (l:List (Nat×CK)),ja9 (xs.map f)=some l→∀ p∈l,∃ a∈xs,∃ l',f a=some l'∧p∈l':=fun {α} f xs=>by
   induction xs with
   | nil=>intro l h;simp only[List.map_nil,ja9] at h;injection h with h;subst h;simp
   | cons a xs ih =>
    intro l h p hp
    simp only[List.map_cons,ja9] at h
    cases h1:f a with
    | none=>simp[h1] at h
    | some l1 =>
    cases h2:ja9 (xs.map f) with
    | none=>simp[h1,h2] at h
    | some l2 =>
    simp only[h1,h2] at h
    injection h with h;subst h
    rcases List.mem_append.1 hp with hp | hp
    ·exact⟨a,by simp,l1,h1,hp⟩
    ·obtain⟨b,hb,r⟩:=ih l2 h2 p hp
     exact⟨b,by simp[hb],r⟩
  unfold V4 at h
  cases hu:P.underlying t with
  | none=>simp[hu] at h
  | some u =>
  cases u with
  | int k =>
   simp only[hu] at h;injection h with h;subst h
   obtain⟨n,rfl,_,_⟩:=Ye3 hu hx
   intro p hp;simp at hp;subst hp;exact⟨n,rfl⟩
  | bool =>
   simp only[hu] at h;injection h with h;subst h
   obtain⟨n,rfl,_⟩:=Ke7 hu hx
   intro p hp;simp at hp;subst hp;exact⟨n,rfl⟩
  | struct fs =>
   simp only[hu] at h
   split at h
   ·cases h
   obtain⟨_,fuel',xs,_,_,hxs⟩:=je4 hu hx
   intro p hp
   obtain⟨f,hf,l',h1,h2⟩:=hcat _ _ _ h p hp
   split at h1
   ·cases h1
   obtain⟨j,hj⟩:=List.getElem?_of_mem hf
   obtain⟨y,_,hy⟩:=hxs j f (by simpa using hj)
   have hc:P.cellsOf f.type=szT P f.type:=by
    unfold Program.cellsOf szT
    cases P.info? f.type<;>rfl
   rw[hc] at hy
   exact hpart h1 hy p h2
  | array n e =>
   simp only[hu] at h
   split at h
   case isFalse=>cases h
   obtain⟨_,fuel',xs,hn,_,hxs⟩:=Kd1 hu hx
   intro p hp
   obtain⟨j,hj,l',h1,h2⟩:=hcat _ _ _ h p hp
   have hj':j < xs.length:=by rw[hn];simpa using hj
   have hy:=hxs j _ (List.getElem?_eq_getElem hj')
   have hc:P.cellsOf e=szT P e:=by
    unfold Program.cellsOf szT
    cases P.info? e<;>rfl
   rw[hc] at hy
   exact hpart h1 hy p h2
  | _=>simp[hu] at h
def fa4 (k:IntKind) (es:Nat) (g:Nat→Int):List b7:=(List.range es).map fun c=>.v (.int k (g c))
def Fa6 (k:IntKind) (es:Nat):List (Nat×CK):=(List.range es).map fun c=>(c,.int k)
theorem be5 {d : Nat} {t : TypeId} {k : IntKind} {es : Nat} (hf : V4 P d t = some (Fa6 k es)) {fuel : Nat} {cs : List Value} {x : DataW D × List MemPlace} (hx : DataW.trod enc P w base spare held fuel t cs = some x) (hl : cs.length = es) :
  ∃ g:Nat→Int,∀ c,c < es→cs[c]?=some (.int k (g c)):=by
 have h:=be4 d t _ hf fuel cs x hx
 have h':∀ c,∃ n:Int,c < es→cs[c]?=some (.int k n):=fun c=>by
  by_cases hc:c < es
  ·have:=h (c,.int k) (List.mem_map.2 ⟨c,by simpa using hc,rfl⟩)
   obtain⟨n,hn⟩:=this
   exact⟨n,fun _=>by simpa using hn⟩
  ·exact⟨0,fun h=>absurd h hc⟩
 exact⟨fun c=>Classical.choose (h' c),fun c hc=>Classical.choose_spec (h' c) hc⟩
theorem xe7 {F:Fz} {w:World} (k:IntKind) (n:Int):X0 F w (.v (.int k n)) (.int k n):=.v _ rfl
theorem Vc5 {k:IntKind} {es:Nat} {g:Nat→Int} {c:Nat} {x:b7} (h:(fa4 k es g)[c]?=some x):c < es∧x=.v (.int k (g c)):=by
 unfold fa4 at h
 obtain⟨h1,h2⟩:=Ia2 h
 exact⟨h1,h2.symm⟩
theorem Sb9 {t e : TypeId} {k : IntKind} {es d : Nat} (ht : P.underlying t = some (.slice e)) (hf : V4 P d e = some (Fa6 k es)) (hes : P.cellsOf e = es) (h0 : 0 < es) {fuel : Nat} {cs : List Value} {x : DataW D × List MemPlace} (hx : DataW.trod enc P w 0 spare held fuel t cs = some x) :
  ∃ (v:Value) (n:Nat) (g:Nat→Nat→Int),cs=[v]∧n≤maxLen∧X0 (fd2 w) w (.tree es n fun j=>fa4 k es (g j)) v:=by
 rcases xe6 ht hx with rfl | ⟨a,n,cap,fuel',rfl,hn,hc,hel⟩
 ·exact⟨_,0,fun _ _=>0,rfl,Nat.zero_le _,.nil _ _⟩
 ·rw[hes] at hel
  have hcell:∀ j,j < n→∃ g:Nat→Int,∀ c,c < es→w.cell? ((a.add (j*es)).add c)=some (.int k (g c)):=fun j hj=>by
   obtain⟨row,y,h1,h2⟩:=hel j hj
   unfold World.cells? at h1
   split at h1
   ·obtain⟨l1,l2⟩:=Jb5 h1
    have hl:row.length=es:=by simpa using l1
    obtain⟨g,hg⟩:=be5 hf h2 hl
    refine⟨g,fun c hc=>?_⟩
    obtain⟨i,hi,hi2⟩:=l2 c _ (hg c hc)
    rw[List.getElem?_range hc] at hi
    injection hi with hi
    subst hi
    exact hi2
   ·cases h1
  have hg:∀ j,∃ g:Nat→Int,j < n→∀ c,c < es→w.cell? ((a.add (j*es)).add c)=some (.int k (g c)):=fun j=>by
   by_cases hj:j < n
   ·obtain⟨g,hg⟩:=hcell j hj
    exact⟨g,fun _=>hg⟩
   ·exact⟨fun _=>0,fun h=>absurd h hj⟩
  obtain⟨g,hg⟩:=Classical.axiomOfChoice hg
  have hspot:0 < n→a.spot=none:=fun hn=>by
   have:=hg 0 hn 0 h0
   simpa [Addr.add] using World.cell?_spot this
  have hw:∀ j c,j < n→c < es→w.cell? ⟨a.block,a.off+(j*es+c),none⟩=some (.int k (g j c)):=fun j c hj hc=>by
   have:=hg j hj c hc
   rw[V5 (hspot (by omega)),V5 rfl] at this
   simpa [Nat.add_assoc] using this
  refine⟨_,n,g,rfl,Nat.le_trans hn hc,.tree es n _ a cap (fun j c=>.int k (g j c)) hspot hn (fun i hi=>by simp[fa4]) (fun i c hi hc=>?_) hw fun i c hi hc=>?_⟩
  ·unfold fd2
   rw[hw i c hi hc]
   rfl
  ·have:=(Vc5 (List.getElem?_eq_getElem hc)).2
   rw[this]
   exact xe7 _ _
theorem je5 (w:World):y6 (fun k=>w.heap.size≤k) (fun _=>⟨0,0,0⟩) [] (fd2 w) w :=
 ⟨fun id b h=>by simp at h,fun id id' b b' h=>by simp at h,fun _ _ h=>h,fun _ h=>h⟩
theorem je6 {G : Nat → List Value} {f : FuncId} {S : Sum} (hS : g9 P G f S) {aargs : List b7} {args : List Value} (hrun : ∃ out, (S aargs []).run = some (b true, out)) (hl : aargs.length = args.length)
  (ha:∀ (i:Nat) x x',aargs[i]?=some x→args[i]?=some x'→aa9 (fun _=>⟨0,0,0⟩) [] (fd2 w) w x x') (hG:∀ g (c:Nat) x,(G g)[c]?=some x→x.oneCell'=true∧w.cell? ⟨g,c,none⟩=some x) :
  Calls P f args.toArray w fun e w'=>e=.returned (.bool true)∧Vc4 w w':=by
 obtain⟨out,hrun⟩:=hrun
 obtain⟨_,hc⟩:=hS aargs [] (b true) out hrun (fun k=>w.heap.size≤k) (fun _=>⟨0,0,0⟩) (fd2 w) w args (je5 w) hl (fun i x x' h1 h2=>.val (ha i x x' h1 h2)) (fun g c x hx=>by
  obtain⟨h1,h2⟩:=hG g c x hx
  exact⟨h1,by unfold fd2;rw[h2];rfl,h2⟩)
 refine hc.mono fun e w' ⟨r',he,ρ',F',hA,hH,hW⟩=>?_
 have:=ea1 hW
 subst this
 exact⟨he,hA.ext.os,hA.ext.output,hA.ext.size,fun k hk=>hA.ext.block k hk (by omega)⟩
theorem Ke8 {ρ : Rho} {H : List c7} {F : Fz} {t : TypeId} {k : IntKind} {es d : Nat} {v : Value} {dd : DataW D} {pp : List MemPlace} {bs : Nat} {r : Reach} (hag : agT P t = true) (hf : V4 P d t = some (Fa6 k es)) (hes : P.cellsOf t = es)
  (hok:Value.okWide P w r bs t v) (h:DataW.Trod enc P w base spare held t v dd pp):∃ g:Nat→Int,aa9 ρ H F w (.agg (fa4 k es g)) v:=by
 have hv:∃ cs:Array Value,v=.agg cs∧cs.size=P.cellsOf t:=by
  unfold agT at hag
  unfold Value.okWide at hok
  split at hag
  ·rename_i fs hu;rw[hu] at hok;obtain⟨cs,h1,h2,_⟩:=hok;exact⟨cs,h1,h2⟩
  ·rename_i n e hu;rw[hu] at hok;obtain⟨cs,h1,h2,_⟩:=hok;exact⟨cs,h1,h2⟩
  ·cases hag
 obtain⟨cs,rfl,hsz⟩:=hv
 obtain⟨fuel,hx⟩:=h
 have hx:DataW.trod enc P w base spare held fuel t cs.toList=some (dd,pp):=hx
 obtain⟨g,hg⟩:=be5 hf hx (by simpa [hes] using hsz)
 refine⟨g,.agg _ _ (by simp[fa4,hsz,hes]) fun c x x' h1 h2=>?_⟩
 obtain⟨hc,rfl⟩:=Vc5 h1
 have:=hg c hc
 have h3:some x'=some (.int k (g c)):=by rw[← h2];simpa using this
 injection h3 with h3
 subst h3
 exact .v _
theorem je7 {ρ : Rho} {H : List c7} {t e : TypeId} {k : IntKind} {es d : Nat} {v : Value} {dd : DataW D} {pp : List MemPlace} {bs : Nat} {r : Reach} (ht : P.underlying t = some (.slice e)) (hf : V4 P d e = some (Fa6 k es)) (hes : P.cellsOf e = es) (h0 : 0 < es)
  (hok:Value.okWide P w r bs t v) (h:DataW.Trod enc P w 0 spare held t v dd pp):∃ (n:Nat) (g:Nat→Nat→Int),n≤maxLen∧aa9 ρ H (fd2 w) w (.tree es n fun j=>fa4 k es (g j)) v:=by
 obtain⟨fuel,hx⟩:=h
 obtain⟨v',n,g,h1,h2,h3⟩:=Sb9 ht hf hes h0 hx
 have hv:v.cells=#[v]:=by
  unfold Value.okWide at hok
  rw[ht] at hok
  cases v with
  | agg cs=>exfalso;simp[Cell.okWide,Cell.ok,ht] at hok
  | _=>rfl
 rw[hv] at h1
 have:v=v':=by simpa using h1
 subst this
 exact⟨n,g,h2,.cell (.mem h3)⟩
theorem Ke9 {ρ : Rho} {H : List c7} {t e u : TypeId} {k : IntKind} {es d : Nat} {v : Value} {dd : DataW D} {pp : List MemPlace} {bs : Nat} {r : Reach} (ht : P.underlying t = some (.array 2 e)) (he : P.underlying e = some (.slice u)) (hf : V4 P d u = some (Fa6 k es)) (hes : P.cellsOf u = es) (hce : P.cellsOf e = 1) (hct : P.cellsOf t = 2) (h0 : 0 < es)
  (hok:Value.okWide P w r bs t v) (h:DataW.Trod enc P w 0 spare held t v dd pp):∃ (m n:Nat) (g j:Nat→Nat→Int),aa9 ρ H (fd2 w) w (.agg [.tree es m fun i=>fa4 k es (g i),.tree es n fun i=>fa4 k es (j i)]) v:=by
 have hv:∃ cs:Array Value,v=.agg cs∧cs.size=P.cellsOf t:=by
  unfold Value.okWide at hok
  rw[ht] at hok;obtain⟨cs,h1,h2,_⟩:=hok;exact⟨cs,h1,h2⟩
 obtain⟨cs,rfl,hsz⟩:=hv
 rw[hct] at hsz
 obtain⟨fuel,hx⟩:=h
 have hx:DataW.trod enc P w 0 spare held fuel t cs.toList=some (dd,pp):=hx
 obtain⟨_,f1,xs,hl,_,hxs⟩:=Kd1 ht hx
 have hp:∀ i,i < 2→∃ (n:Nat) (g:Nat→Nat→Int),∀ x',cs[i]?=some x'→X0 (fd2 w) w (.tree es n fun j=>fa4 k es (g j)) x':=fun i hi=>by
  have hi':i < xs.length:=by omega
  have h1:=hxs i _ (List.getElem?_eq_getElem hi')
  rw[hce] at h1
  obtain⟨v',n,g,e1,_,e3⟩:=Sb9 he hf hes h0 h1
  refine⟨n,g,fun x' hx'=>?_⟩
  have e4:=congrArg (fun l=>l[0]?) e1
  simp only[List.getElem?_take,List.getElem?_drop,Nat.mul_one,Nat.add_zero,Nat.lt_add_one,if_true,List.getElem?_cons_zero,Array.getElem?_toList] at e4
  have:x'=v':=Option.some.inj (hx'.symm.trans (by simpa using e4))
  subst this
  exact e3
 obtain⟨m,g,hm⟩:=hp 0 (by omega)
 obtain⟨n,j,hn⟩:=hp 1 (by omega)
 refine⟨m,n,g,j,.agg _ _ (by simp[hsz]) fun i x x' hx hx'=>?_⟩
 match i,hx with
 | 0,hx=>cases hx;exact .mem (hm x' hx')
 | 1,hx=>cases hx;exact .mem (hn x' hx')
end
end Go.Ev
namespace Go.Ev.L
open Go Go.Ev
theorem xe8 {α : Type} (t : Ty α) (n : Nat) (g : Nat → Nat → Int) (f : (Nat → Int) → α) (h : ∀ j, fa4 .i64 t.es (g j) = t.row (f (g j))) :
  ∃ l,(oa4 t).dec (.tree t.es n fun j=>fa4 .i64 t.es (g j))=some l∧(oa4 t).grd (.tree t.es n fun j=>fa4 .i64 t.es (g j))=true:=by
 refine⟨lsL t n fun j=>fa4 .i64 t.es (g j),?_,Va2 t (f:=fun k=>f (g k)) fun k _=>h k⟩
 show Bool.rec (motive:=fun _=>Option (List α)) none (some (lsL t n fun j=>fa4 .i64 t.es (g j))) (Nat.beq t.es t.es)=_
 rw[Nat.beq_refl]
end Go.Ev.L
namespace Go.Ev.L
open Go Go.Ev
def Rdg {α:Type} (c:Cod α) (x:b7) (a:α):Prop:=c.dec x=some a∧c.grd x=true
theorem xe9 {α:Type} (t:Ty α) (n:Nat) (g:Nat→Nat→Int) (f:(Nat→Int)→α) (h:∀ j,fa4 .i64 t.es (g j)=t.row (f (g j))):∃ l,Rdg (oa4 t) (.tree t.es n fun j=>fa4 .i64 t.es (g j)) l:=xe8 t n g f h
theorem be6 {α:Type} (t:Ty α) {cs:List b7} (h:t.ok cs=true):∃ a,Rdg (K9 t) (.agg cs) a:=⟨t.rd cs,by
 show Bool.rec (motive:=fun _=>Option α) none (some (t.rd cs)) (t.ok cs)=_
 rw[h],rfl⟩
section
variable {α β γ δ ε:Type} {c:Cod α} {d:Cod β} {e:Cod γ} {f:Cod δ} {c5:Cod ε} {x y z w v:b7} {a:α} {b':β} {g:γ} {j:δ} {m:ε} {r:b7×List c7}
theorem sf3 {k:α→β→γ→DT (b7×List c7)} (h1:Rdg c x a) (h2:Rdg d y b') (h3:Rdg e z g) (h:(k a b' g).run=some r):(wc7 c d e k [x,y,z] []).run=some r:=by
 unfold wc7
 simp only[h1.1,h1.2,h2.1,h2.2,h3.1,h3.2]
 exact h
end
theorem Ye4 {g p:Bool} (hg:g=true) (hp:p=true):(DT.guard g (.ret ((one r1B).enc p,([]:List c7)))).run=some (b true,([]:List c7)):=by subst hg;subst hp;rfl
end Go.Ev.L
namespace Go.Ev.Ce
open Go Go.Ev Go.Ev.L Go.Proofs
structure B3 where
 b0:Int
 b1:Int
 b2:Int
structure B2 where
 d0:Int
 d1:Int
structure LL where
 u:List Int
 v:List Int
noncomputable def hf8:List b7→Bool
 | [x,y]=>Bool.and ((tLs tI).ok [x]) ((tLs tI).ok [y])
 | _=>false
noncomputable def tZ:Ty LL where
 es:=2
 row x:=[eL tI x.u,eL tI x.v]
 rd r:=⟨rL tI (hdA r),rL tI (hdA (tlA r))⟩
 ok:=hf8
 cks:=[.sl 1,.sl 1]
 d:=⟨[],[]⟩
 h0 _:=rfl
 h1 x:=by
  show LL.mk (rL tI (eL tI x.u)) (rL tI (eL tI x.v))=x
  rw[show rL tI (eL tI x.u)=x.u from j8 tI x.u,show rL tI (eL tI x.v)=x.v from j8 tI x.v]
 h2 x:=by
  show Bool.and ((tLs tI).ok ((tLs tI).row x.u)) ((tLs tI).ok ((tLs tI).row x.v))=true
  rw[(tLs tI).h2,(tLs tI).h2]
  rfl
 h3 r h:=by
  unfold hf8 at h
  split at h
  ·rename_i x y
   rw[Bool.and_eq_true] at h
   have h1:=(tLs tI).h3 _ h.1
   have h2:=(tLs tI).h3 _ h.2
   cases h1 with
   | cons a _ =>
    cases h2 with
    | cons b _=>exact .cons a (.cons b .nil)
  ·cases h
 h4 x:=by
  show Bool.and (Nat.beq 1 1) (Bool.and (Nat.beq 1 1) true)=true
  rfl
 h5 _:=rfl
end Go.Ev.Ce
namespace Go.Ev.Ce
open Go Go.Ev Go.Ev.L Go.Proofs
noncomputable def V1 (x:List Int):V3×List V3:=match N9 x with
 | []=>(⟨0,0,0⟩,[])
 | a::l=>(a,l)
noncomputable def Tb0:Sum:=V6 (oa4 tI) fun x=>.guard (Ya9 x) (.guard (Nat.ble 1 (List.length (N9 x))) (.ret (eL tV ((V1 x).1::(V1 x).2),[])))
theorem ye0 {α:Type} {c:Cod α} {k k':α→DT (b7×List c7)} (h:∀ a r,(k a).run=some r→(k' a).run=some r) {args:List b7} {blks:List c7} {r:b7×List c7} (hr:(V6 c k args blks).run=some r):(V6 c k' args blks).run=some r:=by
 unfold V6 at hr ⊢
 split at hr
 ·rename_i x
  cases hd:c.dec x with
  | none=>rw[hd] at hr;cases hr
  | some a =>
   rw[hd] at hr
   obtain⟨h1,h2⟩:=DT.run_guard_some (show (DT.guard (c.grd x) (k a)).run=some r from hr)
   show (DT.guard (c.grd x) (k' a)).run=some r
   rw[h1]
   exact h a r h2
 ·cases hr
theorem Vc6:g9 prog G 25 Tb0:=fun args blks r out he=>cd0 args blks r out (ye0 (fun x r hr=>by
 obtain⟨h1,hr⟩:=DT.run_guard_some hr
 obtain⟨h2,hr⟩:=DT.run_guard_some hr
 rw[h1]
 have e:(V1 x).1::(V1 x).2=N9 x:=by
  unfold V1
  cases h:N9 x with
  | nil=>rw[h] at h2;cases h2
  | cons a l=>rfl
 rw[e] at hr
 exact hr) he)
end Go.Ev.Ce
section
namespace Go.Ev.Ce
open Go Go.Ev Go.Ev.L Go.Proofs
set_option maxRecDepth 100000
noncomputable def Vc7:List (Nat×Sum):=[]
theorem Ec1:j9 prog G Vc7:=trivial
noncomputable def pb1  : Option (b7×List c7):=(some ((.sl 0 0 4 0),[⟨27,3,[[(i 0),(i 0),(i 0)],[(i 1),(i 0),(i 0)],[(i 0),(i 1),(i 0)],[(i 0),(i 0),(i 1)]],true,false,0⟩]))
noncomputable def Sa9  : List V3:=M4 (one (r1L tV)) pb1
noncomputable def ta1  : Bool:=okO (one (r1L tV)) pb1
noncomputable def Tb1:Sum:=Bd8  (.guard ta1 (.ret ((one (r1L tV)).enc Sa9,[])))
theorem Vc8:g9 prog G 67 Tb1:=af5 (bd b67 Ec1) (one (r1L tV)) (o:=pb1) (A6 (by kernel_rfl))
noncomputable def Ec2:List (Nat×Sum):=[]
theorem tc0:j9 prog G Ec2:=trivial
noncomputable def wa9 (x:List V3) (y:Int):Option (b7×List c7):=(sl (inB (if y < (↑(List.length x):Int) then y else (↑(List.length x):Int)) ((List.length x)+1)) (some ((.tree 3 ((if y < (↑(List.length x):Int) then y else (↑(List.length x):Int)).toNat - 0) (fun k=>(fun k=>(tV).row (gL tV x k)) (0+k))),[])) none)
noncomputable def na8 (x:List V3) (y:Int):List V3:=M4 (one (r1L tV)) (wa9 x y)
noncomputable def fa5 (x:List V3) (y:Int):Bool:=okO (one (r1L tV)) (wa9 x y)
noncomputable def Jb6:Sum:=ga1 (oa4 tV) cI (fun x y=>.guard (fa5 x y) (.ret ((one (r1L tV)).enc (na8 x y),[])))
theorem Ec3:g9 prog G 24 Jb6:=Oa2 (bd b24 tc0) (one (r1L tV)) (o:=wa9) fun x y=>A6 (by kernel_rfl)
structure le7 where
 Na2:List Pln
 is8:Int
 d6:Int
 b8:Int
 d8:Int
structure le8 where
 is9:Int
noncomputable def Ec4:List (Nat×Sum):=[(19,Sc3),(21,fc1),(23,Pc4),(67,Tb1),(28,rc4),(30,hb8),(31,ob9)]
theorem tc1:j9 prog G Ec4:=⟨Gd9,dd8,Gd5,Vc8,Uc6,zb6,Ib9,trivial⟩
noncomputable def xa0  : Option (b7×List c7):=let t1:=(Pa9 [(⟨(⟨1,1,1⟩:V3),3⟩:Pln),(⟨(⟨(-1),0,0⟩:V3),0⟩:Pln)] (⟨1,0,2⟩:V3));let t2:=(La4 [(⟨(⟨1,1,1⟩:V3),3⟩:Pln),(⟨(⟨(-1),0,0⟩:V3),0⟩:Pln)] (⟨1,0,2⟩:V3));let t3:=(db8 (rt tP t1.1) [(⟨(⟨1,1,1⟩:V3),6⟩:Pln),(⟨(⟨(-1),0,0⟩:V3),1⟩:Pln)]);let t4:=(db8 (rt tP t2.1) [(⟨(⟨1,1,1⟩:V3),0⟩:Pln),(⟨(⟨(-1),0,0⟩:V3),(-1)⟩:Pln)]);let t5:=(Pa9 [(⟨(⟨1,1,1⟩:V3),3⟩:Pln),(⟨(⟨(-1),0,0⟩:V3),0⟩:Pln)] (⟨13,0,0⟩:V3));let t6:=(La4 [(⟨(⟨1,1,1⟩:V3),3⟩:Pln),(⟨(⟨(-1),0,0⟩:V3),0⟩:Pln)] (⟨0,(-1),0⟩:V3));let t7:=(Pa9 [(⟨(⟨1,0,0⟩:V3),2097152⟩:Pln)] (⟨1,0,0⟩:V3));let t8:=Sa9;let t9:=(Qa4 (rt tV t8) [(⟨0,0,0⟩:V3),(⟨2,0,0⟩:V3)]);let t10:=(na6 (rt tV t9.1) [(⟨0,0,0⟩:V3),(⟨0,0,1⟩:V3),(⟨0,1,0⟩:V3),(⟨2,0,1⟩:V3),(⟨2,1,0⟩:V3),(⟨3,0,0⟩:V3)]);let t11:=(Qa4 (rt tV t8) []);let t12:=(Qa4 (rt tV t8) [(⟨24,0,0⟩:V3)]);let t13:=(sa9 (rt tV t8) (⟨3,(-1),2⟩:V3));let t14:=(sa9 [] (⟨3,0,0⟩:V3));(sl (Qa0 [(⟨(⟨1,1,1⟩:V3),3⟩:Pln),(⟨(⟨(-1),0,0⟩:V3),0⟩:Pln)] (⟨1,0,2⟩:V3)) (sl (La5 [(⟨(⟨1,1,1⟩:V3),3⟩:Pln),(⟨(⟨(-1),0,0⟩:V3),0⟩:Pln)] (⟨1,0,2⟩:V3)) (sl (!t1.2) (some ((b false),[])) (sl (!t2.2) (some ((b false),[])) (sl (okE tP t1.1) (sl (db9 (rt tP t1.1) [(⟨(⟨1,1,1⟩:V3),6⟩:Pln),(⟨(⟨(-1),0,0⟩:V3),1⟩:Pln)]) (sl (!t3) (some ((b false),[])) (sl (okE tP t2.1) (sl (db9 (rt tP t2.1) [(⟨(⟨1,1,1⟩:V3),0⟩:Pln),(⟨(⟨(-1),0,0⟩:V3),(-1)⟩:Pln)]) (sl (!t4) (some ((b false),[])) (sl (Qa0 [(⟨(⟨1,1,1⟩:V3),3⟩:Pln),(⟨(⟨(-1),0,0⟩:V3),0⟩:Pln)] (⟨13,0,0⟩:V3)) (sl (La5 [(⟨(⟨1,1,1⟩:V3),3⟩:Pln),(⟨(⟨(-1),0,0⟩:V3),0⟩:Pln)] (⟨0,(-1),0⟩:V3)) (sl (Qa0 [(⟨(⟨1,0,0⟩:V3),2097152⟩:Pln)] (⟨1,0,0⟩:V3)) (sl ta1 (sl (okE tV t8) (sl (Qa5 (rt tV t8) [(⟨0,0,0⟩:V3),(⟨2,0,0⟩:V3)]) (sl t5.2 (some ((b false),[])) (sl t6.2 (some ((b false),[])) (sl t7.2 (some ((b false),[])) (sl (t9.2 != 0) (some ((b false),[])) (sl (okE tV t9.1) (sl (na7 (rt tV t9.1) [(⟨0,0,0⟩:V3),(⟨0,0,1⟩:V3),(⟨0,1,0⟩:V3),(⟨2,0,1⟩:V3),(⟨2,1,0⟩:V3),(⟨3,0,0⟩:V3)]) (sl (!t10) (some ((b false),[])) (sl ta1 (sl (okE tV t8) (sl (Qa5 (rt tV t8) []) (sl ta1 (sl (okE tV t8) (sl (Qa5 (rt tV t8) [(⟨24,0,0⟩:V3)]) (sl ta1 (sl (okE tV t8) (sl (ta0 (rt tV t8) (⟨3,(-1),2⟩:V3)) (sl (ta0 [] (⟨3,0,0⟩:V3)) (sl (t11.2==11) (sl (t12.2==3) (sl (t13.1==3) (sl t13.2 (some ((b (!t14.2)),[])) (some ((b false),[]))) (some ((b false),[]))) (some ((b false),[]))) (some ((b false),[]))) none) none) none) none) none) none) none) none) none) none)) none) none))))) none) none) none) none) none) none)) none) none)) none) none))) none) none)
noncomputable def Ma5  : Bool:=M4 (one r1B) xa0
noncomputable def Ma6  : Bool:=okO (one r1B) xa0
noncomputable def Jb7:Sum:=Bd8  (.guard Ma6 (.ret ((one r1B).enc Ma5,[])))
theorem Ec5:g9 prog G 15 Jb7:=af5 (bd b15 tc1) (one r1B) (o:=xa0) (A6 (by kernel_rfl))
end Go.Ev.Ce
end
namespace Go.Ev.Ce
open Go Go.Ev Go.Ev.L Go.Proofs
noncomputable def wd9 (v:V3):List b7:=[i v.x,i v.y,i v.z,b true]
noncomputable def hb9 (l:List V3):List (List b7):=l.map wd9
@[reducible] noncomputable def flV:List (Nat×CK):=[(0,(.int .i64)),(1,(.int .i64)),(2,(.int .i64))]
def Vc9 (l:List V3) (x:V3):Bool:=l.any fun q=>eqV q x
theorem nd3 (x q:V3):tb4 flV [i x.x,i x.y,i x.z] (wd9 q)=eqV q x:=by
 show Bool.and (decide (x.x=q.x)) (Bool.and (decide (x.y=q.y)) (Bool.and (decide (x.z=q.z)) true))=_
 unfold eqV
 have h:∀ a c:Int,decide (a=c)=(c==a):=fun a c=>by rw[Bool.eq_iff_iff,decide_eq_true_eq,beq_iff_eq];exact eq_comm
 rw[h,h,h]
theorem ye1 (x:V3):∀ l,Ga6 3 [(0,(.int .i64)),(1,(.int .i64)),(2,(.int .i64))] [i x.x,i x.y,i x.z] (hb9 l)=Vc9 l x
 | []=>rfl
 | q::l=>by
  have ih:=ye1 x l
  unfold Ga6 at ih ⊢
  show Option.rec (motive:=fun _=>Bool) false (fun r=>toB (hdA (d9 r 3))) (Bool.rec (motive:=fun _=>Option (List b7)) (Yb2 flV [i x.x,i x.y,i x.z] (hb9 l)) (some (wd9 q)) (tb4 flV [i x.x,i x.y,i x.z] (wd9 q)))=Vc9 (q::l) x
  rw[nd3]
  unfold Vc9 at ih ⊢
  rw[List.any_cons]
  cases eqV q x with
  | true=>rfl
  | false=>exact ih
theorem Ye5 (x:V3):∀ l,Vc9 l x=false→V2 [(0,(.int .i64)),(1,(.int .i64)),(2,(.int .i64))] [i x.x,i x.y,i x.z] [i x.x,i x.y,i x.z,b true] (hb9 l)=hb9 (l++[x])
 | [],_=>rfl
 | q::l,h=>by
  unfold Vc9 at h
  rw[List.any_cons,Bool.or_eq_false_iff] at h
  show Bool.rec (motive:=fun _=>List (List b7)) (wd9 q::V2 flV [i x.x,i x.y,i x.z] (wd9 x) (hb9 l)) (wd9 x::hb9 l) (tb4 flV [i x.x,i x.y,i x.z] (wd9 q))=_
  rw[nd3,h.1,show V2 flV [i x.x,i x.y,i x.z] (wd9 x) (hb9 l)=_ from Ye5 x l h.2]
  rfl
def xb6 (s:List V3) (v:V3):List V3:=if Vc9 s v then s else s++[v]
noncomputable def ic1 (x:V3) (s:List V3) (y:V3):List V3:=xb6 s (r8 x y)
noncomputable def la9 (l:List V3) (s:List V3) (x:V3):List V3:=l.foldl (ic1 x) s
noncomputable def xa1 (a l:List V3):List V3:=a.foldl (la9 l) []
theorem Ic0 (s:List V3) (v:V3):xb6 s v≠[]:=by
 unfold xb6
 split
 ·rename_i h
  intro e
  rw[e] at h
  cases h
 ·simp
theorem Wc0 (s:List V3) (v:V3):(xb6 s v).length≤s.length+1:=by
 unfold xb6
 split
 ·omega
 ·simp
theorem Kd2 (x:V3):∀ (l s:List V3),(la9 l s x).length≤s.length+l.length
 | [],s=>by simp[la9]
 | y::l,s=>by
  have h1:=Kd2 x l (ic1 x s y)
  have h2:=Wc0 s (r8 x y)
  unfold ic1 at h1
  show (la9 l (xb6 s (r8 x y)) x).length≤_
  simp only[List.length_cons]
  omega
theorem Nb9 (l:List V3):∀ (a s:List V3),(a.foldl (la9 l) s).length≤s.length+a.length*l.length
 | [],s=>by simp
 | x::a,s=>by
  have h1:=Nb9 l a (la9 l s x)
  have h2:=Kd2 x l s
  rw[List.foldl_cons,List.length_cons,Nat.succ_mul]
  omega
theorem Kd3 (a l:List V3):(xa1 a l).length≤a.length*l.length:=by
 have:=Nb9 l a []
 simp only[List.length_nil,Nat.zero_add] at this
 exact this
noncomputable def Ab2 (x:V3) (j:Nat) (o:List V3):o8:=match o with
 | []=>⟨0,(j:Int),0,[],[],0,0,0⟩
 | q::o=>⟨1,(j:Int),(q::o).length,bL tV (q::o),hb9 (q::o),x.x,x.y,x.z⟩
theorem be7 {x:V3} {j:Nat} {o:List V3} (h:o≠[]):Ab2 x j o=⟨1,(j:Int),o.length,bL tV o,hb9 o,x.x,x.y,x.z⟩:=by
 cases o with
 | nil=>exact absurd rfl h
 | cons q o=>rfl
theorem Ye6 (O:List V3) (v:V3):app (bL tV O) [[i v.x,i v.y,i v.z]]=bL tV (O++[v]):=Fa5 tV O [v]
theorem ye2 (x : V3) (l : List V3) (P : C6) (h1 : P.xb9 = l) (h2 : P.yd0 = (l.length : Int)) (hl : l.length ≤ 48) (o : List V3) (ho : o.length ≤ 1000000) (hP : o = [] → P.F6 = x.x ∧ P.F7 = x.y ∧ P.F8 = x.z) :
  ∃ t s,lp (H5 P) (Ab2 x 0 o)=(t,s)∧(t=phV (la9 l o x)+1∧∃ j,s=Ab2 x j (la9 l o x)):=by
 refine F5 (step:=H5 P) (mk:=Ab2 x) l.length (fun j s=>j≤l.length∧s=(l.take j).foldl (ic1 x) o∧s.length≤o.length+j∧(s=[]→P.F6=x.x∧P.F7=x.y∧P.F8=x.z)) (fun t s=>t=phV (la9 l o x)+1∧∃ j,s=Ab2 x j (la9 l o x)) (by omega)
  (fun j s hj hi=>?_) (fun j s hj hi=>?_) 0 o ⟨Nat.zero_le _,by simp,by omega,hP⟩
 ·obtain⟨_,hi,hlen,hz⟩:=hi
  have hn:=o6 hj (show l.length≤4611686018427387904 by omega)
  have hb:inB (j:Int) l.length=true:=f7 hj
  have hT:(l.take (j+1)).foldl (ic1 x) o=xb6 s (r8 x (gL tV l j)):=by
   rw[za0 tV hj,List.foldl_append,← hi]
   rfl
  have hnext:∀ {s':o8},s'=Ab2 x (j+1) (xb6 s (r8 x (gL tV l j)))→Nx (.next s') (fun t=>t=phV (la9 l o x)+1∧∃ j',Ab2 x j s=Ab2 x j' (la9 l o x)) (fun s'=>∃ o',s'=Ab2 x (j+1) o'∧(j+1≤l.length∧o'=(l.take (j+1)).foldl (ic1 x) o∧o'.length≤o.length+(j+1)∧(o'=[]→P.F6=x.x∧P.F7=x.y∧P.F8=x.z))):=fun {s'} hs=>.nx ⟨_,hs,by omega,hT.symm,by have:=Wc0 s (r8 x (gL tV l j));omega,fun h=>absurd h (Ic0 _ _)⟩
  clear hi
  cases s with
  | nil =>
   obtain⟨z1,z2,z3⟩:=hz rfl
   have hu:∀ v:V3,V2 [(0,(.int .i64)),(1,(.int .i64)),(2,(.int .i64))] [i v.x,i v.y,i v.z] [i v.x,i v.y,i v.z,b true] []=hb9 [v]:=fun v=>Ye5 v [] rfl
   have hv:∀ v:V3,Ga6 3 [(0,(.int .i64)),(1,(.int .i64)),(2,(.int .i64))] [i v.x,i v.y,i v.z] []=false:=fun v=>ye1 v []
   have hs:xb6 [] (r8 x (gL tV l j))=[r8 x (gL tV l j)]:=rfl
   have e:H5 P (Ab2 x j [])=.next ⟨1,((j+1:Nat):Int),1,[[i (r8 x (gL tV l j)).x,i (r8 x (gL tV l j)).y,i (r8 x (gL tV l j)).z]],hb9 [r8 x (gL tV l j)],x.x,x.y,x.z⟩:=by
    show J5 Stp.next Stp.exit Stp.fail P (Ab2 x j [])=_
    simp only[J5,Ab2,h1,h2,z1,z2,z3,Int.toNat_natCast,hn,hb,hv,hu,Bool.not_false,q8]
    rw[btD (i8 hj)]
   rw[e]
   exact hnext (by rw[hs];rfl)
  | cons q s =>
   have rr:(Nat.beq (q::s).length (len (bL tV (q::s)))&&Nat.ble (((q::s).length+1)*24) room)=true:=Hd5 rfl (by omega)
   show Nx (J6 Stp.next Stp.exit Stp.fail P (Ab2 x j (q::s))) _ _
   simp only[J6,Ab2,h1,h2,Int.toNat_natCast,hn,hb,ye1,rr,Ye6]
   rw[btD (i8 hj)]
   cases hh:Vc9 (q::s) (r8 x (gL tV l j)) with
   | true =>
    refine hnext ?_
    rw[be7 (Ic0 _ _)]
    unfold xb6
    rw[hh]
    rfl
   | false =>
    refine hnext ?_
    rw[be7 (Ic0 _ _)]
    unfold xb6
    rw[hh,Ye5 _ _ hh]
    show (⟨1,_,(q::s).length+1,_,_,_,_,_⟩:o8)=⟨1,_,(q::s++[_]).length,_,_,_,_,_⟩
    rw[List.length_append]
    rfl
 ·obtain⟨hje,hi,hlen,hz⟩:=hi
  have hje:j=l.length:=by omega
  subst hje
  have hO:s=la9 l o x:=by rw[hi,List.take_length];rfl
  rw[← hO]
  cases s with
  | nil =>
   refine⟨1,?_,rfl,_,rfl⟩
   show J5 Stp.next Stp.exit Stp.fail P (Ab2 x l.length [])=_
   simp only[J5,Ab2,h2]
   rw[bfD (i7 (Nat.lt_irrefl _))]
  | cons q s =>
   refine⟨2,?_,rfl,_,rfl⟩
   show J6 Stp.next Stp.exit Stp.fail P (Ab2 x l.length (q::s))=_
   simp only[J6,Ab2,h2]
   rw[bfD (i7 (Nat.lt_irrefl _))]
noncomputable def xd0 (a l:List V3) (j:Nat) (o:List V3):s7:=match o with
 | []=>⟨0,l,a,(j:Int),0,[],[]⟩
 | q::o=>⟨1,l,a,(j:Int),(q::o).length,bL tV (q::o),hb9 (q::o)⟩
theorem Ye7 (a l:List V3) (ha:a.length≤48) (hl:l.length≤48):∃ t s,lp (fa2 ⟨(a.length:Int)⟩) (xd0 a l 0 [])=(t,s)∧(t=phV (xa1 a l)+1∧∃ j,s=xd0 a l j (xa1 a l)):=by
 refine F5 (step:=fa2 ⟨(a.length:Int)⟩) (mk:=xd0 a l) a.length (fun j s=>j≤a.length∧s=(a.take j).foldl (la9 l) []) (fun t s=>t=phV (xa1 a l)+1∧∃ j,s=xd0 a l j (xa1 a l)) (by omega)
  (fun j s hj hi=>?_) (fun j s hj hi=>?_) 0 [] ⟨Nat.zero_le _,by simp⟩
 ·obtain⟨_,hi⟩:=hi
  have hlen:s.length≤1000000:=by
   have h1:=Nb9 l (a.take j) []
   rw[← hi] at h1
   have h2:=List.length_take_le j a
   have h3:(a.take j).length*l.length≤48*48:=Nat.mul_le_mul (by omega) hl
   simp only[List.length_nil] at h1
   omega
  have hn:=o6 hj (show a.length≤4611686018427387904 by omega)
  have hb:inB (j:Int) a.length=true:=f7 hj
  have hT:(a.take (j+1)).foldl (la9 l) []=la9 l s (gL tV a j):=by
   rw[za0 tV hj,List.foldl_append,← hi]
   rfl
  have hnext:∀ {s':s7},s'=xd0 a l (j+1) (la9 l s (gL tV a j))→Nx (.next s') (fun t=>t=phV (xa1 a l)+1∧∃ j',xd0 a l j s=xd0 a l j' (xa1 a l)) (fun s'=>∃ o',s'=xd0 a l (j+1) o'∧(j+1≤a.length∧o'=(a.take (j+1)).foldl (la9 l) [])):=fun {s'} hs=>.nx ⟨_,hs,by omega,hT.symm⟩
  clear hi
  cases s with
  | nil =>
   obtain⟨t,s',k1,rfl,j',rfl⟩:=ye2 (gL tV a j) l ⟨l,a,(a.length:Int),(j:Int),l,(l.length:Int),(gL tV a j).x,(gL tV a j).y,(gL tV a j).z⟩ rfl rfl hl [] (by simp) (fun _=>⟨rfl,rfl,rfl⟩)
   have k1:lp (H5 ⟨l,a,(a.length:Int),(j:Int),l,(l.length:Int),(gL tV a j).x,(gL tV a j).y,(gL tV a j).z⟩) ⟨0,0,0,[],[],0,0,0⟩=_:=k1
   show Nx (J7 Stp.next Stp.exit Stp.fail ⟨(a.length:Int)⟩ ⟨0,l,a,(j:Int),0,[],[]⟩) _ _
   simp only[J7,j8,j7,Int.toNat_natCast,hn,hb,k1]
   rw[btD (i8 hj)]
   cases hr:la9 l [] (gL tV a j) with
   | nil=>exact hnext (by rw[hr];rfl)
   | cons q o=>exact hnext (by rw[hr];rfl)
  | cons q s =>
   obtain⟨t,s',k1,rfl,j',rfl⟩:=ye2 (gL tV a j) l ⟨l,a,(a.length:Int),(j:Int),l,(l.length:Int),0,0,0⟩ rfl rfl hl (q::s) hlen (fun h=>by cases h)
   have k1:lp (H5 ⟨l,a,(a.length:Int),(j:Int),l,(l.length:Int),0,0,0⟩) ⟨1,0,(q::s).length,bL tV (q::s),hb9 (q::s),(gL tV a j).x,(gL tV a j).y,(gL tV a j).z⟩=_:=k1
   show Nx (J8 Stp.next Stp.exit Stp.fail ⟨(a.length:Int)⟩ ⟨1,l,a,(j:Int),(q::s).length,bL tV (q::s),hb9 (q::s)⟩) _ _
   simp only[J8,j8,j7,Int.toNat_natCast,hn,hb,k1]
   rw[btD (i8 hj)]
   cases hr:la9 l (q::s) (gL tV a j) with
   | nil=>exact hnext (by rw[hr];rfl)
   | cons q' o=>exact hnext (by rw[hr];rfl)
 ·obtain⟨hje,hi⟩:=hi
  have hje:j=a.length:=by omega
  subst hje
  have hO:s=xa1 a l:=by rw[hi,List.take_length];rfl
  rw[← hO]
  cases s with
  | nil =>
   refine⟨1,?_,rfl,_,rfl⟩
   show J7 Stp.next Stp.exit Stp.fail ⟨(a.length:Int)⟩ ⟨0,l,a,(a.length:Int),0,[],[]⟩=_
   simp only[J7]
   rw[bfD (i7 (Nat.lt_irrefl _))]
  | cons q s =>
   refine⟨2,?_,rfl,_,rfl⟩
   show J8 Stp.next Stp.exit Stp.fail ⟨(a.length:Int)⟩ ⟨1,l,a,(a.length:Int),(q::s).length,bL tV (q::s),hb9 (q::s)⟩=_
   simp only[J8]
   rw[bfD (i7 (Nat.lt_irrefl _))]
noncomputable def Ab3 (a l:List V3):List V3×Int:=if 48 < a.length∨48 < l.length then ([],2) else Pb3 (xa1 a l)
theorem Wc1 (l:List V3) (n:Int):(two (r1L tV) r1I).rd (.tup [eL tV l,i n],[])=some (l,n):=by
 have h:(r1L tV).rd [] (eL tV l)=some l:=Zd6 tV l
 simp only[two,h]
 rfl
theorem hf9 (m n:Nat):decide ((if (n:Int) > (m:Int) then (n:Int) else (m:Int)) > 48)=decide (48 < m∨48 < n):=by
 rw[decide_eq_decide]
 split<;>omega
theorem Qe1 (a l:List V3):∃ x,sb8 a l=some x∧(two (r1L tV) r1I).rd x=some (Ab3 a l):=by
 unfold sb8 Ab3
 rw[hf9]
 by_cases h:48 < a.length∨48 < l.length
 ·rw[decide_eq_true h,if_pos h]
  exact⟨_,rfl,rfl⟩
 ·rw[decide_eq_false h,if_neg h]
  obtain⟨t,s,k1,rfl,j,rfl⟩:=Ye7 a l (by omega) (by omega)
  have k1:lp (fa2 ⟨(a.length:Int)⟩) ⟨0,l,a,0,0,[],[]⟩=_:=k1
  unfold Xa4 ha6
  simp only[j8,j7,k1,hf7.1,hf7.2]
  have hlen:(xa1 a l).length≤900000:=by
   have h1:=Kd3 a l
   have h3:a.length*l.length≤48*48:=Nat.mul_le_mul (by omega) (by omega)
   omega
  cases hr:xa1 a l with
  | nil=>exact⟨_,rfl,Wc1 _ _⟩
  | cons q o =>
   rw[hr] at hlen
   have hg:Fa0 (q::o)=true:=decide_eq_true ⟨by simp,hlen⟩
   have e1:slR tV (bL tV (q::o)) 0 (q::o).length=q::o:=cb7 tV _
   have e2:okS tV (bL tV (q::o)) 0 (q::o).length=true:=mb3 tV _
   simp only[xd0,phV]
   refine⟨(.tup [eL tV (Pb3 (q::o)).1,i (Pb3 (q::o)).2],[]),?_,Wc1 _ _⟩
   show sl (okS tV (bL tV (q::o)) 0 (q::o).length) (sl (Fa0 (slR tV (bL tV (q::o)) 0 (q::o).length)) (some (b7.tup [eL tV (Ea9 (slR tV (bL tV (q::o)) 0 (q::o).length)).1,i (Ea9 (slR tV (bL tV (q::o)) 0 (q::o).length)).2],[])) none) none=_
   rw[e1,e2,hg]
   rfl
theorem Qe2 (a l:List V3):Qa4 a l=Ab3 a l:=by obtain⟨x,h,k⟩:=Qe1 a l;unfold Qa4;rw[h];exact Qa1 _ k
theorem Qe3 (a l:List V3):Qa5 a l=true:=by obtain⟨x,h,k⟩:=Qe1 a l;unfold Qa5;rw[h];exact gb6 _ k
end Go.Ev.Ce
namespace Go.Ev.Ce
open Go Go.Ev Go.Ev.L Go.Proofs
def rch (n e:V3):Int:=(n.x.natAbs:Int)*e.x+(n.y.natAbs:Int)*e.y+(n.z.natAbs:Int)*e.z
def Tb2 (e:V3):Bool:=(decide (0≤e.x)&&decide (e.x≤12))&&((decide (0≤e.y)&&decide (e.y≤12))&&(decide (0≤e.z)&&decide (e.z≤12)))
def pq (e:V3) (s:Int) (p:Pln):Pln:=⟨p.n,p.b+s*rch p.n e⟩
def okq (e:V3) (s:Int) (p:Pln):Bool:=okp p&&smb 2097152 (p.b+s*rch p.n e)
def Jb8 (c:List Pln) (e:V3) (s:Int):List Pln×Bool:=if (Tb2 e&&c.all (okq e s))=true then (c.map (pq e s),true) else ([],false)
structure B12 (e:V3):Prop where
 x1:0≤e.x
 x2:e.x≤12
 y1:0≤e.y
 y2:e.y≤12
 z1:0≤e.z
 z2:e.z≤12
theorem nd4 (e:V3):Tb2 e=true↔B12 e:=by
 unfold Tb2
 simp only[Bool.and_eq_true,decide_eq_true_eq]
 exact⟨fun⟨⟨a,b⟩,⟨c,d⟩,f,g⟩=>⟨a,b,c,d,f,g⟩,fun⟨a,b,c,d,f,g⟩=>⟨⟨a,b⟩,⟨c,d⟩,f,g⟩⟩
theorem nd5 {n e:Int} (hn:Sm 4608 n) (h0:0≤e) (h1:e≤12):0≤(n.natAbs:Int)*e∧(n.natAbs:Int)*e≤55296:=by
 have a:(n.natAbs:Int)≤4608:=by have:=hn.1;have:=hn.2;omega
 refine⟨Int.mul_nonneg (by omega) h0,?_⟩
 have:=Int.mul_le_mul a h1 h0 (by omega)
 omega
theorem ye3 {p:Pln} (hp:okp p=true) {e:V3} (he:B12 e):0≤rch p.n e∧rch p.n e≤165888:=by
 have hb:=Ib0 hp
 have h1:=nd5 ⟨hb.x1,hb.x2⟩ he.x1 he.x2
 have h2:=nd5 ⟨hb.y1,hb.y2⟩ he.y1 he.y2
 have h3:=nd5 ⟨hb.z1,hb.z2⟩ he.z1 he.z2
 unfold rch
 omega
theorem smL {n x:Int} (h1:-n≤x) (h2:x≤n) (hn:n≤1000000000000000000):Sm 1000000000000000000 x:=⟨by omega,by omega⟩
theorem Kd4 {p:Pln} (hp:okp p=true) {e:V3} (he:B12 e):Ca1 p.n e=rch p.n e:=by
 have hb:=Ib0 hp
 have h1:=nd5 ⟨hb.x1,hb.x2⟩ he.x1 he.x2
 have h2:=nd5 ⟨hb.y1,hb.y2⟩ he.y1 he.y2
 have h3:=nd5 ⟨hb.z1,hb.z2⟩ he.z1 he.z2
 unfold Ca1
 rw[lb3 (smL hb.x1 hb.x2 (by omega)),lb3 (smL hb.y1 hb.y2 (by omega)),lb3 (smL hb.z1 hb.z2 (by omega))]
 simp only
 rw[ka8 (n:=(p.n.x.natAbs:Int)*e.x) (by omega) (by omega),ka8 (n:=(p.n.y.natAbs:Int)*e.y) (by omega) (by omega),ka8 (n:=(p.n.z.natAbs:Int)*e.z) (by omega) (by omega),
  ka8 (n:=(p.n.x.natAbs:Int)*e.x+(p.n.y.natAbs:Int)*e.y) (by omega) (by omega),ka8 (by omega) (by omega)]
 rfl
noncomputable def Ud6 (p:Pln) (y:Int):Pln×Bool:=if (okp p&&(smb 4194304 y&&smb 2097152 (W (p.b+y))))=true then (⟨p.n,W (p.b+y)⟩,true) else (⟨⟨0,0,0⟩,0⟩,false)
theorem ye4 (p:Pln) (y:Int):∃ x,La1 p y=some x∧(two r1P r1B).rd x=some (Ud6 p y):=by
 have e1:L0 4194304 [y]=smb 4194304 y:=by rw[sb0 _ _ (by omega) (by simp)];simp
 have e2:L1 4194304 [y]=true:=sb1 _ _ (by omega) (by simp)
 have e3:L0 2097152 [W (p.b+y)]=smb 2097152 (W (p.b+y)):=by rw[sb0 _ _ (by omega) (by simp)];simp
 have e4:L1 2097152 [W (p.b+y)]=true:=sb1 _ _ (by omega) (by simp)
 unfold La1 Ud6
 simp only[Zd4,Zd5,e1,e2,e3,e4]
 cases okp p
 ·exact⟨_,rfl,rfl⟩
 ·cases smb 4194304 y
  ·exact⟨_,rfl,rfl⟩
  ·cases smb 2097152 (W (p.b+y))<;>exact⟨_,rfl,rfl⟩
theorem xd1 (p:Pln) (y:Int):pa2 p y=Ud6 p y:=by
 obtain⟨x,h,k⟩:=ye4 p y
 unfold pa2;rw[h];exact Qa1 _ k
theorem xd2 (p:Pln) (y:Int):pa3 p y=true:=by
 obtain⟨x,h,k⟩:=ye4 p y
 unfold pa3;rw[h];exact gb6 _ k
theorem ye5 {e:V3} (he:B12 e) {s y:Int} (hs:s=1∨s=-1) {p:Pln} (hy:okp p=true→y=s*rch p.n e):Ud6 p y=if okq e s p=true then (pq e s p,true) else (⟨⟨0,0,0⟩,0⟩,false):=by
 unfold Ud6 okq pq
 cases hp:okp p
 ·rfl
 ·have hr:=ye3 hp he
  have hb:=Ib0 hp
  have e1:=hy hp
  subst e1
  have hm:-165888≤s*rch p.n e∧s*rch p.n e≤165888:=by
   rcases hs with rfl | rfl<;>omega
  have h1:smb 4194304 (s*rch p.n e)=true:=(lb2 _ _).2 ⟨by omega,by omega⟩
  have hb1:=hb.b1;have hb2:=hb.b2
  rw[h1,ka8 (by omega) (by omega)]
  rfl
theorem Kd5 (e:V3):ia9 e=some (b (Tb2 e),[]):=by
 have hs:lp (H4 ⟨e.x,e.y,e.z⟩) ⟨0⟩=(if Tb2 e then 2 else 1,(lp (H4 ⟨e.x,e.y,e.z⟩) ⟨0⟩).2):=by
  refine Prod.ext ?_ rfl
  have h:=Wa1 (step:=H4 ⟨e.x,e.y,e.z⟩) (mk:=fun j=>(⟨(j:Int)⟩:A7)) (c:=fun n=>decide (n < 0)||decide (n > 12)) (u:=1) (fin:=2) tI [e.x,e.y,e.z] (by simp)
   (fun j hj=>by
    have hj:j < 3:=hj
    have hc:j=0∨j=1∨j=2:=by omega
    have hw:W ((j:Int)+1)=((j+1:Nat):Int):=o6 hj (by omega)
    simp only[H4,R9,Int.toNat_natCast,hw]
    rw[btD (show (j:Int) < 3 by omega),bt (f7 hj)]
    rcases hc with rfl | rfl | rfl
    ·show sl true (sl (decide (e.x < 0)) _ (sl (decide (e.x > 12)) _ _)) _=sl (decide (e.x < 0)||decide (e.x > 12)) _ _
     cases decide (e.x < 0)<;>cases decide (e.x > 12)<;>rfl
    ·show sl true (sl (decide (e.y < 0)) _ (sl (decide (e.y > 12)) _ _)) _=sl (decide (e.y < 0)||decide (e.y > 12)) _ _
     cases decide (e.y < 0)<;>cases decide (e.y > 12)<;>rfl
    ·show sl true (sl (decide (e.z < 0)) _ (sl (decide (e.z > 12)) _ _)) _=sl (decide (e.z < 0)||decide (e.z > 12)) _ _
     cases decide (e.z < 0)<;>cases decide (e.z > 12)<;>rfl)
   (by simp only[H4,R9];rw[bfD (by show ¬ ((3:Nat):Int) < 3;omega)]) 0 (Nat.zero_le _)
  rw[List.drop_zero] at h
  rw[show (⟨0⟩:A7)=⟨((0:Nat):Int)⟩ from rfl,h]
  have hq:∀ n:Int,(decide (n < 0)||decide (n > 12))=!(decide (0≤n)&&decide (n≤12)):=fun n=>by
   by_cases h1:n < 0<;>by_cases h2:n > 12<;>simp[h1,h2]<;>omega
  simp only[List.any_cons,List.any_nil,Bool.or_false,hq]
  unfold Tb2
  cases (decide (0≤e.x)&&decide (e.x≤12))<;>cases (decide (0≤e.y)&&decide (e.y≤12))<;>cases (decide (0≤e.z)&&decide (e.z≤12))<;>rfl
 unfold ia9
 rw[hs]
 cases Tb2 e<;>rfl
theorem Kd6 (e:V3):ja0 e=Tb2 e:=by unfold ja0;rw[Kd5];rfl
theorem Kd7 (e:V3):ja1 e=true:=by unfold ja1;rw[Kd5];rfl
end Go.Ev.Ce
namespace Go.Ev.Ce
open Go Go.Ev Go.Ev.L Go.Proofs
theorem ye6 {α:Type} (t:Ty α) {l:List α} {j:Nat} {c:α→Bool} (h:j < l.length):(l.take (j+1)).all c=((l.take j).all c&&c (gL t l j)):=by
 rw[za0 t h,List.all_append,List.all_cons,List.all_nil,Bool.and_true]
theorem Ye8 {α:Type} (t:Ty α) {l:List α} {j:Nat} {c:α→Bool} (h:j < l.length) (hc:c (gL t l j)=false):l.all c=false:=by
 rw[List.all_eq_false]
 exact⟨_,Pa5 t h,by rw[hc];simp⟩
section
variable (c:List Pln) (e:V3) (s:Int)
structure PI (j:Nat) (o:List Pln):Prop where
 le:j≤c.length
 o:o=(c.take j).map (pq e s)
 a:(c.take j).all (okq e s)=true
def PE {σ:Type} (mk:Nat→List Pln→σ) (t:Nat) (st:σ):Prop:=(t=1∧c.all (okq e s)=false)∨(c.all (okq e s)=true∧t=phP (c.map (pq e s))+2∧∃ j,st=mk j (c.map (pq e s)))
theorem nd6 {σ : Type} {step : σ → Stp σ} {mk : Nat → List Pln → σ} (hc : c.length ≤ 1000000)
  (h:∀ j o,j < c.length→o.length≤1000000→step (mk j o)=if okq e s (gL tP c j)=true then .next (mk (j+1) (o++[pq e s (gL tP c j)])) else .exit 1)
  (hf:∀ o,step (mk c.length o)=.exit (phP o+2)):∃ t st,lp step (mk 0 [])=(t,st)∧PE c e s mk t st :=
 F5 (step:=step) (mk:=mk) c.length (PI c e s) (PE c e s mk) (by omega)
  (fun j o hj hi=>by
   have hlen:o.length≤1000000:=by
    rw[hi.o,List.length_map]
    have:=List.length_take_le j c
    omega
   rw[h j o hj hlen]
   cases hk:okq e s (gL tP c j) with
   | true=>exact .nx ⟨_,rfl,by omega,by rw[za0 tP hj,List.map_append,← hi.o];rfl,by rw[ye6 tP hj,hi.a,hk];rfl⟩
   | false=>exact .ex (.inl ⟨rfl,Ye8 tP hj hk⟩))
  (fun j o hj hi=>by
   have hje:j=c.length:=by have:=hi.le;omega
   subst hje
   have ho:=hi.o
   have ha:=hi.a
   rw[List.take_length] at ho ha
   subst ho
   exact⟨_,hf _,.inr ⟨ha,rfl,_,rfl⟩⟩) 0 [] ⟨Nat.zero_le _,by simp,by simp⟩
end
theorem if0 (O:List Pln) (p:Pln):app (bL tP O) [[i p.n.x,i p.n.y,i p.n.z,i p.b]]=bL tP (O++[p]):=Fa5 tP O [p]
theorem xd3 {σ : Type} {e : V3} {s : Int} {p : Pln} (k : Pln → Stp σ) :
  sl (!(if okq e s p=true then (pq e s p,true) else ((⟨⟨0,0,0⟩,0⟩:Pln),false)).2) (.exit 1) (k (if okq e s p=true then (pq e s p,true) else ((⟨⟨0,0,0⟩,0⟩:Pln),false)).1)=if okq e s p=true then k (pq e s p) else .exit 1:=by
 cases okq e s p<;>rfl
theorem xd4 (c:List Pln) {e:V3} (he:B12 e) (hc:c.length≤1000000):∃ t st,lp (ya8 ⟨e.x,e.y,e.z,c,(c.length:Int)⟩) ⟨0,0,0,[]⟩=(t,st)∧PE c e 1 (fun j o=>(⟨phP o,(j:Int),o.length,bL tP o⟩:p5)) t st:=by
 refine nd6 c e 1 (step:=ya8 ⟨e.x,e.y,e.z,c,(c.length:Int)⟩) (mk:=fun j o=>(⟨phP o,(j:Int),o.length,bL tP o⟩:p5)) hc (fun j o hj ho=>?_) (fun o=>?_)
 ·have hn:=o6 hj (show c.length≤4611686018427387904 by omega)
  have hb:=f7 hj
  have hp:Ud6 (gL tP c j) (qa9 ⟨e.x,e.y,e.z⟩ (gL tP c j))=if okq e 1 (gL tP c j)=true then (pq e 1 (gL tP c j),true) else (⟨⟨0,0,0⟩,0⟩,false):=ye5 he (.inl rfl) fun hp=>by
   rw[Int.one_mul];exact Kd4 hp he
  cases o with
  | nil =>
   show P2 Stp.next Stp.exit Stp.fail _ _=_
   simp only[P2,Int.toNat_natCast,xd1,xd2,hp,hn,hb]
   rw[btD (i8 hj)]
   exact xd3 (fun p=>Stp.next (⟨1,((j+1:Nat):Int),1,[[i p.n.x,i p.n.y,i p.n.z,i p.b]]⟩:p5))
  | cons q o =>
   have rr:(Nat.beq (q::o).length (len (bL tP (q::o)))&&Nat.ble (((q::o).length+1)*32) room)=true:=sb6 rfl (by omega)
   show P4 Stp.next Stp.exit Stp.fail _ _=_
   simp only[P4,Int.toNat_natCast,xd1,xd2,hp,hn,hb,rr,if0]
   rw[btD (i8 hj)]
   refine (xd3 (fun p=>Stp.next (⟨1,((j+1:Nat):Int),(q::o).length+1,bL tP (q::o++[p])⟩:p5))).trans ?_
   cases okq e 1 (gL tP c j)
   ·rfl
   ·show Stp.next (⟨1,_,(q::o).length+1,_⟩:p5)=Stp.next (⟨1,_,(q::o++[_]).length,_⟩:p5)
    rw[List.length_append]
    rfl
 ·cases o with
  | nil =>
   show P2 Stp.next Stp.exit Stp.fail _ _=_
   simp only[P2]
   rw[bfD (i7 (Nat.lt_irrefl _))]
   rfl
  | cons q o =>
   show P4 Stp.next Stp.exit Stp.fail _ _=_
   simp only[P4]
   rw[bfD (i7 (Nat.lt_irrefl _))]
   rfl
theorem xd5 (c:List Pln) {e:V3} (he:B12 e) (hc:c.length≤1000000):∃ t st,lp (ya9 ⟨e.x,e.y,e.z,c,(c.length:Int)⟩) ⟨0,0,0,[]⟩=(t,st)∧PE c e (-1) (fun j o=>(⟨phP o,(j:Int),o.length,bL tP o⟩:p6)) t st:=by
 refine nd6 c e (-1) (step:=ya9 ⟨e.x,e.y,e.z,c,(c.length:Int)⟩) (mk:=fun j o=>(⟨phP o,(j:Int),o.length,bL tP o⟩:p6)) hc (fun j o hj ho=>?_) (fun o=>?_)
 ·have hn:=o6 hj (show c.length≤4611686018427387904 by omega)
  have hb:=f7 hj
  have hp:Ud6 (gL tP c j) (La2 ⟨e.x,e.y,e.z⟩ (gL tP c j))=if okq e (-1) (gL tP c j)=true then (pq e (-1) (gL tP c j),true) else (⟨⟨0,0,0⟩,0⟩,false):=ye5 he (.inr rfl) fun hp=>by
   show W (0 - Ca1 (gL tP c j).n e)=_
   have:=ye3 hp he
   rw[Kd4 hp he,ka8 (by omega) (by omega)]
   omega
  cases o with
  | nil =>
   show P5 Stp.next Stp.exit Stp.fail _ _=_
   simp only[P5,Int.toNat_natCast,xd1,xd2,hp,hn,hb]
   rw[btD (i8 hj)]
   exact xd3 (fun p=>Stp.next (⟨1,((j+1:Nat):Int),1,[[i p.n.x,i p.n.y,i p.n.z,i p.b]]⟩:p6))
  | cons q o =>
   have rr:(Nat.beq (q::o).length (len (bL tP (q::o)))&&Nat.ble (((q::o).length+1)*32) room)=true:=sb6 rfl (by omega)
   show P6 Stp.next Stp.exit Stp.fail _ _=_
   simp only[P6,Int.toNat_natCast,xd1,xd2,hp,hn,hb,rr,if0]
   rw[btD (i8 hj)]
   refine (xd3 (fun p=>Stp.next (⟨1,((j+1:Nat):Int),(q::o).length+1,bL tP (q::o++[p])⟩:p6))).trans ?_
   cases okq e (-1) (gL tP c j)
   ·rfl
   ·show Stp.next (⟨1,_,(q::o).length+1,_⟩:p6)=Stp.next (⟨1,_,(q::o++[_]).length,_⟩:p6)
    rw[List.length_append]
    rfl
 ·cases o with
  | nil =>
   show P5 Stp.next Stp.exit Stp.fail _ _=_
   simp only[P5]
   rw[bfD (i7 (Nat.lt_irrefl _))]
   rfl
  | cons q o =>
   show P6 Stp.next Stp.exit Stp.fail _ _=_
   simp only[P6]
   rw[bfD (i7 (Nat.lt_irrefl _))]
   rfl
theorem be8 (l:List Pln):(two (r1L tP) r1B).rd (.tup [.sl 0 0 l.length 0,b true],[⟨73,4,bL tP l,true,false,0⟩])=some (l,true):=by
 have h:(r1L tP).rd [⟨73,4,bL tP l,true,false,0⟩] (.sl 0 0 l.length 0)=some l:=by
  show Bool.rec (motive:=fun _=>Option (List Pln)) none (some (slR tP (bL tP l) 0 l.length)) (Bool.and true (okS tP (bL tP l) 0 l.length))=_
  rw[cb7,mb3]
  rfl
 simp only[two,h]
 rfl
theorem ye7 (c:List Pln) (e:V3) (hc:c.length≤1000000):∃ x,gb4 c e=some x∧(two (r1L tP) r1B).rd x=some (Jb8 c e 1):=by
 unfold gb4 ob6 sa7 Jb8
 simp only[j8,j7,Kd6,Kd7]
 cases hb:Tb2 e with
 | false=>exact⟨_,rfl,rfl⟩
 | true =>
  obtain⟨t,st,h,hE⟩:=xd4 c ((nd4 e).1 hb) hc
  rw[h]
  rcases hE with⟨rfl,ha⟩ | ⟨ha,rfl,j,rfl⟩
  ·rw[ha]
   exact⟨_,rfl,rfl⟩
  ·rw[ha]
   cases hm:c.map (pq e 1) with
   | nil=>exact⟨_,rfl,rfl⟩
   | cons q o=>exact⟨_,rfl,be8 (q::o)⟩
theorem Kd8 (c:List Pln) (e:V3) (hc:c.length≤1000000):∃ x,La3 c e=some x∧(two (r1L tP) r1B).rd x=some (Jb8 c e (-1)):=by
 unfold La3 ob7 sa8 Jb8
 simp only[j8,j7,Kd6,Kd7]
 cases hb:Tb2 e with
 | false=>exact⟨_,rfl,rfl⟩
 | true =>
  obtain⟨t,st,h,hE⟩:=xd5 c ((nd4 e).1 hb) hc
  rw[h]
  rcases hE with⟨rfl,ha⟩ | ⟨ha,rfl,j,rfl⟩
  ·rw[ha]
   exact⟨_,rfl,rfl⟩
  ·rw[ha]
   cases hm:c.map (pq e (-1)) with
   | nil=>exact⟨_,rfl,rfl⟩
   | cons q o=>exact⟨_,rfl,be8 (q::o)⟩
section
variable (c:List Pln) (e:V3) (hc:c.length≤1000000)
include hc
theorem Ud7:Pa9 c e=Jb8 c e 1:=by obtain⟨x,h,k⟩:=ye7 c e hc;unfold Pa9;rw[h];exact Qa1 _ k
theorem Ud8:Qa0 c e=true:=by obtain⟨x,h,k⟩:=ye7 c e hc;unfold Qa0;rw[h];exact gb6 _ k
theorem Kd9:La4 c e=Jb8 c e (-1):=by obtain⟨x,h,k⟩:=Kd8 c e hc;unfold La4;rw[h];exact Qa1 _ k
theorem Ld0:La5 c e=true:=by obtain⟨x,h,k⟩:=Kd8 c e hc;unfold La5;rw[h];exact gb6 _ k
end
end Go.Ev.Ce
namespace Go.Ev.Ce
open Go Go.Ev Go.Ev.L Go.Proofs
noncomputable def mxS (n:V3) (m:Int) (v:V3):Int:=if r7 v n > m then r7 v n else m
noncomputable def mxL (n:V3):List V3→Int
 | []=>0
 | v::l=>l.foldl (mxS n) (r7 v n)
noncomputable def tc2 (l:List V3) (n:V3):Int×Bool:=(mxL n l,decide (0 < l.length))
theorem Le0 (n v:V3):∀ l,l≠[]→mxL n (l++[v])=mxS n (mxL n l) v
 | [],h=>absurd rfl h
 | w::l,_=>by
  show (l++[v]).foldl (mxS n) (r7 w n)=_
  rw[List.foldl_append]
  rfl
theorem Ld1 {n:V3} {l:List V3} {j:Nat} (hj:j < l.length):mxL n (l.take (j+1))=if j=0 then r7 (gL tV l j) n else mxS n (mxL n (l.take j)) (gL tV l j):=by
 rw[za0 tV hj]
 split
 ·rename_i h
  subst h
  rfl
 ·rename_i h
  refine Le0 _ _ _ fun e=>?_
  have:=congrArg List.length e
  rw[List.length_take,List.length_nil] at this
  omega
theorem nd7 (l:List V3) (n:V3) (hl:l.length≤1000000):Ca2 l n=some (.tup [i (tc2 l n).1,b (tc2 l n).2],[]):=by
 obtain⟨t,s,h,rfl,k,rfl⟩:=F5 (step:=da7 ⟨l,l,(l.length:Int),n.x,n.y,n.z⟩) (mk:=fun j (m:Int)=>(⟨m,(j:Int)⟩:R2)) l.length (fun j m=>j≤l.length∧m=mxL n (l.take j)) (fun t s=>t=1∧∃ k:Int,s=⟨mxL n l,k⟩) (by omega)
  (fun j m hj hi=>by
   obtain⟨_,hi⟩:=hi
   have hn:=o6 hj (show l.length≤4611686018427387904 by omega)
   have hT:=Ld1 (n:=n) hj
   simp only[da7,ja2,Int.toNat_natCast,hn]
   rw[btD (i8 hj),bt (f7 hj)]
   by_cases h0:j=0
   ·subst h0
    exact .nx ⟨_,rfl,by omega,by rw[hT];rfl⟩
   ·rw[if_neg h0,← hi] at hT
    rw[bf (by rw[beq_eq_false_iff_ne];omega)]
    unfold mxS at hT
    split at hT
    ·rename_i h;rw[btD h];exact .nx ⟨_,rfl,by omega,hT.symm⟩
    ·rename_i h;rw[bfD h];exact .nx ⟨_,rfl,by omega,hT.symm⟩)
  (fun j m hj hi=>by
   obtain⟨hje,hi⟩:=hi
   have hje:j=l.length:=by omega
   subst hje
   rw[List.take_length] at hi
   subst hi
   refine⟨1,?_,rfl,_,rfl⟩
   simp only[da7,ja2]
   rw[bfD (i7 (Nat.lt_irrefl _))]) 0 0 ⟨Nat.zero_le _,by simp[mxL]⟩
 have h:lp (da7 ⟨l,l,(l.length:Int),n.x,n.y,n.z⟩) ⟨0,0⟩=_:=h
 unfold Ca2 tc2
 simp only[j8,j7,h]
 have e:decide ((l.length:Int) > 0)=decide (0 < l.length):=by rw[decide_eq_decide];omega
 rw[e]
 rfl
theorem tc3 (l:List V3) (n:V3) (hl:l.length≤1000000):sa9 l n=tc2 l n:=by unfold sa9;rw[nd7 l n hl];rfl
theorem tc4 (l:List V3) (n:V3) (hl:l.length≤1000000):ta0 l n=true:=by unfold ta0;rw[nd7 l n hl];rfl
theorem Wc2 (l:List V3) (n:V3) (hl:l.length≤1000000):Ca7 l n=some (.tup [i (tc2 l n).1,b (tc2 l n).2],[]):=by
 unfold Ca7 tc2
 cases l with
 | nil=>rfl
 | cons v l =>
  obtain⟨t,s,h,rfl,k,rfl⟩:=F5 (step:=da8 ⟨v::l,n.x,n.y,n.z⟩) (mk:=fun j (m:Int)=>(⟨m,(j:Int)⟩:R4)) (v::l).length (fun j m=>j≤(v::l).length∧m=if j=0 then r7 v n else mxL n ((v::l).take j)) (fun t s=>t=1∧∃ k:Int,s=⟨mxL n (v::l),k⟩) (by omega)
   (fun j m hj hi=>by
    obtain⟨_,hi⟩:=hi
    have hn:=o6 hj (show (v::l).length≤4611686018427387904 by omega)
    have hT:=Ld1 (n:=n) hj
    simp only[da8,ja5,Int.toNat_natCast,hn]
    rw[btD (i8 hj),bt (f7 hj)]
    refine .nx ⟨_,rfl,by omega,?_⟩
    rw[if_neg (Nat.succ_ne_zero j),hT]
    by_cases h0:j=0
    ·subst h0
     rw[if_pos rfl] at hi ⊢
     subst hi
     show (if r7 v n > r7 v n then _ else _)=r7 v n
     split<;>rfl
    ·rw[if_neg h0] at hi ⊢
     subst hi
     rfl)
   (fun j m hj hi=>by
    obtain⟨hje,hi⟩:=hi
    have hje:j=(v::l).length:=by omega
    subst hje
    rw[if_neg (by simp),List.take_length] at hi
    subst hi
    refine⟨1,?_,rfl,_,rfl⟩
    simp only[da8,ja5]
    rw[bfD (i7 (Nat.lt_irrefl _))]) 0 (r7 v n) ⟨Nat.zero_le _,rfl⟩
  have h:lp (da8 ⟨v::l,n.x,n.y,n.z⟩) ⟨da2 (gL tV (v::l) 0) n,0⟩=_:=h
  simp only[j8,j7,h]
  rw[bf (show (((v::l).length:Int)==0)=false from by rw[beq_eq_false_iff_ne];simp only[List.length_cons];omega),bt (show inB 0 (v::l).length=true from f7 (j:=0) (by rw[List.length_cons];omega))]
  rw[show decide (0 < (v::l).length)=true from decide_eq_true (by rw[List.length_cons];omega)]
  rfl
theorem Ud9 (l:List V3) (n:V3) (hl:l.length≤1000000):Sa7 l n=tc2 l n:=by unfold Sa7;rw[Wc2 l n hl];rfl
theorem Vd0 (l:List V3) (n:V3) (hl:l.length≤1000000):Sa8 l n=true:=by unfold Sa8;rw[Wc2 l n hl];rfl
theorem be9 (l:List V3) (hl:l.length≤1000000000):wa8 l l=some (b true,[]):=by
 have he:∀ v:V3,(v.x==v.x&&(v.y==v.y&&(v.z==v.z&&true)))=true:=fun v=>by simp
 have h:=Wa1 (step:=ja6 ⟨l,l⟩) (mk:=fun j=>(⟨(j:Int)⟩:I7)) (c:=fun _=>false) (u:=1) (fin:=2) tV l hl
  (fun j hj=>by
   simp only[ja6,fa3,Int.toNat_natCast,o6 hj (by omega),he]
   rw[btD (i8 hj),bt (f7 hj),bt (f7 hj)]
   rfl)
  (by simp only[ja6,fa3];rw[bfD (i7 (Nat.lt_irrefl _))]) 0 (Nat.zero_le _)
 rw[List.drop_zero,show (l.any fun _=>false)=false by simp] at h
 unfold wa8
 simp only[j8,j7]
 rw[show (⟨0⟩:I7)=⟨((0:Nat):Int)⟩ from rfl,h,bf (by simp)]
 rfl
theorem ce0 (l:List V3) (hl:l.length≤1000000000):na6 l l=true:=by unfold na6;rw[be9 l hl];rfl
theorem ce1 (l:List V3) (hl:l.length≤1000000000):na7 l l=true:=by unfold na7;rw[be9 l hl];rfl
theorem Le1:Sa9=[⟨0,0,0⟩,⟨1,0,0⟩,⟨0,1,0⟩,⟨0,0,1⟩]:=rfl
theorem Le2:ta1=true:=rfl
theorem Wc3 (l:List V3) (m:Nat):∃ x,wa9 l (m:Int)=some x∧(one (r1L tV)).rd x=some (l.take m):=by
 have hwl:((if (m:Int) < (↑(List.length l):Int) then (m:Int) else (↑(List.length l):Int)).toNat - 0)=(l.take m).length:=by
  rw[List.length_take];split<;>omega
 have hin:inB (if (m:Int) < (↑(List.length l):Int) then (m:Int) else (↑(List.length l):Int)) (l.length+1)=true:=by
  split
  ·exact f7 (by omega)
  ·exact f7 (by omega)
 have hg:∀ k,k < (l.take m).length→(fun k=>(fun k=>tV.row (gL tV l k)) (0+k)) k=tV.row (gL tV (l.take m) k):=fun k hk=>by
  show tV.row (gL tV l (0+k))=_
  have hk8:k < m:=by rw[List.length_take] at hk;omega
  rw[Nat.zero_add,Uc0 tV l hk8]
 unfold wa9
 rw[hin,hwl]
 refine⟨_,rfl,?_⟩
 show Bool.rec (motive:=fun _=>Option (List V3)) none (some (lsL tV (l.take m).length (fun k=>(fun k=>tV.row (gL tV l k)) (0+k)))) (Bool.and true (okL tV (l.take m).length (fun k=>(fun k=>tV.row (gL tV l k)) (0+k))))=_
 rw[jc7 tV rfl hg,Va2 tV (f:=fun k=>gL tV (l.take m) k) hg]
 rfl
theorem Vd1 (l:List V3) (m:Nat):na8 l (m:Int)=l.take m:=by obtain⟨x,h,k⟩:=Wc3 l m;unfold na8;rw[h];exact Qa1 _ k
theorem Vd2 (l:List V3) (m:Nat):fa5 l (m:Int)=true:=by obtain⟨x,h,k⟩:=Wc3 l m;unfold fa5;rw[h];exact gb6 _ k
theorem Jb9:∀ (l r:List V3),l.Pairwise LtV→r.Pairwise LtV→(∀ v,v∈l↔v∈r)→l=r
 | [],[],_,_,_=>rfl
 | [],y::r,_,_,h=>absurd ((h y).2 (List.mem_cons_self ..)) (by simp)
 | x::l,[],_,_,h=>absurd ((h x).1 (List.mem_cons_self ..)) (by simp)
 | x::l,y::r,h1,h2,h=>by
  obtain⟨a1,a2⟩:=List.pairwise_cons.1 h1
  obtain⟨b1,b2⟩:=List.pairwise_cons.1 h2
  have e:x=y:=by
   rcases List.mem_cons.1 ((h x).1 (List.mem_cons_self ..)) with e | hx
   ·exact e
   ·rcases List.mem_cons.1 ((h y).2 (List.mem_cons_self ..)) with e | hy
    ·exact e.symm
    ·exact absurd (Nb2 (b1 x hx) (a1 y hy)) (gc6 y)
  subst e
  have:l=r:=Jb9 l r a2 b2 fun v=>by
   have hv:=h v
   simp only[List.mem_cons] at hv
   constructor
   ·intro hm
    rcases hv.1 (.inr hm) with e | h'
    ·subst e;exact absurd (a1 v hm) (gc6 v)
    ·exact h'
   ·intro hm
    rcases hv.2 (.inr hm) with e | h'
    ·subst e;exact absurd (b1 v hm) (gc6 v)
    ·exact h'
  rw[this]
end Go.Ev.Ce
