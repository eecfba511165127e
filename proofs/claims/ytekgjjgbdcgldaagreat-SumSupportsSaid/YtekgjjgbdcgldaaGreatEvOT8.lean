/- Own work: a part of the proof. -/
import Derived.Test.YtekgjjgbdcgldaaGreatEvOTK
import Derived.Test.YtekgjjgbdcgldaaGreatEvSp3
set_option linter.unusedVariables false
set_option linter.unusedSimpArgs false
set_option linter.unnecessarySimpa false
set_option linter.unusedSectionVars false
namespace Go.Ev.Ce
open Go Go.Ev Go.Ev.L Go.Proofs
theorem Uc4 {x:List Int} {B:List V3} (hB:∃ y,y∈B) (hb:∀ y∈B,Sm 12 y.x∧Sm 12 y.y∧Sm 12 y.z) (hl:B.length≤6):Sx (d9 x) B:=by
 have hM:=ic4 x
 have h1:=Fc6 (d9 x) B
 have h2:(d9 x).length*B.length≤8*6:=Nat.mul_le_mul hM.l8 hl
 refine⟨Ad1 hM.nf,hB,fun v hv=>?_,fun v hv=>⟨(hb v hv).1.mono (by omega),(hb v hv).2.1.mono (by omega),(hb v hv).2.2.mono (by omega)⟩,fun v hv y hy=>?_,by have:=hM.l8;omega,by omega,by omega⟩
 ·obtain⟨q1,q2,q3⟩:=hM.bd v hv
  exact⟨q1.mono (by omega),q2.mono (by omega),q3.mono (by omega)⟩
 ·obtain⟨⟨a1,a2⟩,⟨a3,a4⟩,a5,a6⟩:=hM.bd v hv
  obtain⟨⟨c1,c2⟩,⟨c3,c4⟩,c5,c6⟩:=hb y hy
  exact (Ea2 _).2 ⟨⟨by simp only[oa4];omega,by simp only[oa4];omega⟩,⟨by simp only[oa4];omega,by simp only[oa4];omega⟩,⟨by simp only[oa4];omega,by simp only[oa4];omega⟩⟩
theorem add_comm (a c:V3):f7 a c=f7 c a:=by
 unfold f7
 rw[Int.add_comm a.x,Int.add_comm a.y,Int.add_comm a.z]
structure df8 (A B:List V3) (y n:V3) where
 V:List V3
 E:List V3
 M:List V3
 f1:Lb7 A B=(V,0)
 f2:Lb7 B A=(V,0)
 lV:V.length≤48
 lM:M.length≤48
 m:(ob4 V n).1=W ((ob4 A n).1+(ob4 B n).1)
 tA:(ob4 A n).2=true
 tB:(ob4 B n).2=true
 tV:(ob4 V n).2=true
 has:∀ x∈A,∀ y∈B,ra0 V (f7 x y)=true∧ra1 V (f7 x y)=true
 f3:Lb7 A [y]=(M,0)
 f4:Db8 A=(E,0)
 lE:E.length≤48
 mv:E.map (fun v=>f7 v y)=M
theorem Id9 (x:List Int) (y:V3) (ys:List V3) (n:V3) (hb:∀ q∈y::ys,Sm 12 q.x∧Sm 12 q.y∧Sm 12 q.z) (hl:(y::ys).length≤3) (hn:Sm 1000 n.x∧Sm 1000 n.y∧Sm 1000 n.z):Nonempty (df8 (d9 x) (y::ys) y n):=by
 have hM:=ic4 x
 have hS:Sx (d9 x) (y::ys):=Uc4 ⟨_,List.mem_cons_self⟩ hb (by omega)
 have hS1:Sx (d9 x) [y]:=Uc4 ⟨_,List.mem_cons_self⟩ (fun q hq=>by
  rcases List.mem_cons.1 hq with rfl | hq
  ·exact hb _ List.mem_cons_self
  ·cases hq) (by simp)
 have hA0:d9 x≠[]:=Le2 x
 have hAl:0 < (d9 x).length:=List.length_pos_iff.2 hA0
 have hAchk:Ha7 (d9 x)=0:=jb8 (by have:=hM.l8;omega) hM.inV (Ad1 hM.nf)
 have hVne:=Id8 hS.inV hS.sol
 have hsame:∀ w,w∈da8 (d9 x) (y::ys)↔w∈da8 (y::ys) (d9 x):=fun w=>by
  rw[Fc5,Fc5]
  constructor
  ·rintro⟨a,ha,c,hc,rfl⟩;exact⟨c,hc,a,ha,add_comm a c⟩
  ·rintro⟨a,ha,c,hc,rfl⟩;exact⟨c,hc,a,ha,add_comm a c⟩
 have hin2:(da8 (y::ys) (d9 x)).all inV=true:=List.all_eq_true.2 fun v hv=>List.all_eq_true.1 hS.inV v ((hsame v).2 hv)
 have hsol2:Sol (da8 (y::ys) (d9 x)):=by
  obtain⟨a,c,k,v,ha,hc,hk,hv,h⟩:=hS.sol
  exact⟨a,c,k,v,(hsame _).1 ha,(hsame _).1 hc,(hsame _).1 hk,(hsame _).1 hv,h⟩
 have hlen2:(da8 (y::ys) (d9 x)).length≤48:=by
  have h1:=Fc6 (y::ys) (d9 x)
  have h2:(y::ys).length*(d9 x).length≤3*8:=Nat.mul_le_mul hl hM.l8
  omega
 refine⟨⟨ga4 (F0 (da8 (d9 x) (y::ys))) (da8 (d9 x) (y::ys)),ga4 (F0 (d9 x)) (d9 x),ga4 (F0 (da8 (d9 x) [y])) (da8 (d9 x) [y]),hS.sum,?_,fc5 hS.l,fc5 hS1.l,hS.mx hn,decide_eq_true hAl,(show decide (0 < (y::ys).length)=true from decide_eq_true (Nat.succ_pos _)),decide_eq_true (List.length_pos_iff.2 hVne),fun a ha c hc=>?_,hS1.sum,?_,fc5 (by have:=hM.l8;omega),?_⟩⟩
 ·unfold Lb7 Db8
  have:=hM.l8
  rw[if_neg (by omega),if_pos (jb8 hlen2 hin2 hsol2),je7 hS.inV hsame]
 ·rw[dd4 (hS.sa a ha) (hS.sb c hc)]
  exact hS.has (hS.i a ha c hc) fun m k h=>by rw[cb8];exact h a ha c hc
 ·unfold Db8
  rw[if_pos hAchk]
 ·rw[Le1 hM.inV hS1.inV (c:=y) fun w=>?_]
  ·refine List.map_congr_left fun v hv=>?_
   exact dd4 (hS1.sa v (Ea9 hM.inV (Ad1 hM.nf) hv)) (hS1.sb y List.mem_cons_self)
  ·rw[hS1.mem]
   constructor
   ·rintro⟨a,ha,c,hc,rfl⟩
    rcases List.mem_cons.1 hc with rfl | hc
    ·exact⟨a,ha,rfl⟩
    ·cases hc
   ·rintro⟨a,ha,rfl⟩;exact⟨a,ha,y,List.mem_cons_self,rfl⟩
theorem Vb8 (x:List Int) (Y:List B3) (z:B3):Y5 x Y z=some (b true,[]):=by
 have hp:=Cc2 x
 have hb1:Nat.ble 1 (d9 x).length=true:=by rw[Nat.ble_eq];omega
 have e8:ra4 (d9 x) 8=d9 x:=(Bd5 (d9 x) 8).trans (List.take_of_length_le hp.2)
 have f8:ra5 (d9 x) 8=true:=Bd6 (d9 x) 8
 obtain⟨n0,g0,u0,v0⟩:=fc6 z.b0 19 9 (by omega) (by omega) (by omega)
 obtain⟨n1,g1,u1,v1⟩:=fc6 z.b1 19 9 (by omega) (by omega) (by omega)
 obtain⟨n2,g2,u2,v2⟩:=fc6 z.b2 19 9 (by omega) (by omega) (by omega)
 have hn:Sm 1000 (⟨n0,n1,n2⟩:V3).x∧Sm 1000 (⟨n0,n1,n2⟩:V3).y∧Sm 1000 (⟨n0,n1,n2⟩:V3).z:=⟨⟨by simp only;omega,by simp only;omega⟩,⟨by simp only;omega,by simp only;omega⟩,⟨by simp only;omega,by simp only;omega⟩⟩
 obtain⟨t,s,h,ht⟩:=rd8 Y true (d9 x) z
 have hgE:P5 (d9 x)=true:=decide_eq_true ⟨by omega,by omega⟩
 unfold Y5
 simp only[p9,Ua0,l7,Bd9,Bd8,be7,hb1,Ue2,e8,f8,g0,g1,g2,h]
 rcases ht with⟨rfl,rfl⟩ | ⟨hne,ht,j,rfl⟩
 ·obtain ⟨C⟩ := Id9 x ⟨1, 0, 0⟩ [] ⟨n0, n1, n2⟩ (fun q hq => by
   rcases List.mem_cons.1 hq with rfl | hq
   ·exact⟨⟨by simp only;omega,by simp only;omega⟩,⟨by simp only;omega,by simp only;omega⟩,⟨by simp only;omega,by simp only;omega⟩⟩
   ·cases hq) (by simp) hn
  have hV:=C.lV;have hE:=C.lE;have hMl:=C.lM
  obtain⟨s',k1,k2⟩:=Uc3 true (d9 x) [⟨1,0,0⟩] C.V (by omega) (by simp) C.has
  have k1:lp (s6 ⟨true,1,((d9 x).length:Int),[[i 1,i 0,i 0]]⟩) ⟨d9 x,C.V,d9 x,0⟩=(2,s'):=k1
  have q1:slR tV [[i 1,i 0,i 0]] 0 1=[⟨1,0,0⟩]:=rfl
  have q2:rdR tV [[i 1,i 0,i 0]] 0=⟨1,0,0⟩:=rfl
  have q3:okS tV [[i 1,i 0,i 0]] 0 1=true:=rfl
  have q4:ldR tV [[i 1,i 0,i 0]] 0=true:=rfl
  have hs1:=Aa2 (d9 x) ⟨n0,n1,n2⟩ (by omega);have hs2:=Aa3 (d9 x) ⟨n0,n1,n2⟩ (by omega)
  have hs3:=Aa2 [⟨1,0,0⟩] ⟨n0,n1,n2⟩ (by simp);have hs4:=Aa3 [⟨1,0,0⟩] ⟨n0,n1,n2⟩ (by simp)
  have hs5:=Aa2 C.V ⟨n0,n1,n2⟩ (by omega);have hs6:=Aa3 C.V ⟨n0,n1,n2⟩ (by omega)
  have hme:P4 (d9 x)=(C.E,0):=C.f4
  have hVM:C.M=C.V:=(congrArg Prod.fst (C.f1.symm.trans C.f3)).symm
  have hmv:=C.mv.trans hVM
  simp only[ie5,ie6,C.f1,C.f2,hs1,hs2,hs3,hs4,hs5,hs6,k1,k2,q1,q2,q3,q4,C.f3,hme,hgE,Id5 C.E ⟨1,0,0⟩ (by omega),Id6 C.E ⟨1,0,0⟩ (by omega),hmv,C.tA,C.tB,C.tV,C.m,Vb6 C.V (by omega),Vb7 C.V (by omega),Vb6 C.M (by omega),Vb7 C.M (by omega)]
  rw[show (W ((ob4 (d9 x) ⟨n0,n1,n2⟩).1+(ob4 [⟨1,0,0⟩] ⟨n0,n1,n2⟩).1) != W ((ob4 (d9 x) ⟨n0,n1,n2⟩).1+(ob4 [⟨1,0,0⟩] ⟨n0,n1,n2⟩).1))=false by simp]
  rfl
 ·have hB3:((Y.take 3).map bpt).length≤3:=by rw[List.length_map,List.length_take];omega
  have hBs:∀ q∈(Y.take 3).map bpt,Sm 12 q.x∧Sm 12 q.y∧Sm 12 q.z:=fun q hq=>by
   obtain⟨r,_,rfl⟩:=List.mem_map.1 hq
   exact Le3 r
  have hBne:(Y.take 3).map bpt≠[]:=fun e=>hne (by
   have:=congrArg List.length e
   rw[List.length_map,List.length_take,List.length_nil] at this
   exact List.length_eq_zero_iff.1 (by omega))
  generalize (Y.take 3).map bpt=B at *
  cases B with
  | nil=>exact absurd rfl hBne
  | cons y ys =>
  obtain⟨C⟩:=Id9 x y ys ⟨n0,n1,n2⟩ hBs hB3 hn
  have hV:=C.lV;have hE:=C.lE;have hMl:=C.lM
  obtain⟨s',k1,k2⟩:=Uc3 true (d9 x) (y::ys) C.V (by omega) (by omega) C.has
  have q1:slR tV (bL tV (y::ys)) 0 1=[y]:=rfl
  have q2:rdR tV (bL tV (y::ys)) 0=y:=rfl
  have q3:okS tV (bL tV (y::ys)) 0 1=true:=rfl
  have q4:ldR tV (bL tV (y::ys)) 0=true:=rfl
  have q5:inB 1 ((y::ys).length+1)=true:=i5 (j:=1) (by simp)
  have q6:inB 0 (y::ys).length=true:=i5 (j:=0) (by simp)
  have q7:((((y::ys).length:Nat):Int)==0)=false:=by rw[beq_eq_false_iff_ne];simp only[List.length_cons];omega
  have hs1:=Aa2 (d9 x) ⟨n0,n1,n2⟩ (by omega);have hs2:=Aa3 (d9 x) ⟨n0,n1,n2⟩ (by omega)
  have hs3:=Aa2 (y::ys) ⟨n0,n1,n2⟩ (by omega);have hs4:=Aa3 (y::ys) ⟨n0,n1,n2⟩ (by omega)
  have hs5:=Aa2 C.V ⟨n0,n1,n2⟩ (by omega);have hs6:=Aa3 C.V ⟨n0,n1,n2⟩ (by omega)
  have hme:P4 (d9 x)=(C.E,0):=C.f4
  have hw:(W ((ob4 (d9 x) ⟨n0,n1,n2⟩).1+(ob4 (y::ys) ⟨n0,n1,n2⟩).1) != W ((ob4 (d9 x) ⟨n0,n1,n2⟩).1+(ob4 (y::ys) ⟨n0,n1,n2⟩).1))=false:=by simp
  simp only[db6,mb4,ie5,ie6,C.f1,C.f2,hs1,hs2,hs3,hs4,hs5,hs6,k1,k2,q1,q2,q3,q4,q5,q6,q7,C.f3,hme,hgE,Id5 C.E y (by omega),Id6 C.E y (by omega),C.mv,C.tA,C.tB,C.tV,C.m,Vb6 C.V (by omega),Vb7 C.V (by omega),Vb6 C.M (by omega),Vb7 C.M (by omega),hw]
  rcases ht with rfl | rfl<;>rfl
theorem Cd0 (x:List Int) (Y:List B3) (z:B3):ia6 x Y z=true:=by unfold ia6;rw[Vb8 x Y z];rfl
theorem Cd1 (x:List Int) (Y:List B3) (z:B3):ia7 x Y z=true:=by unfold ia7;rw[Vb8 x Y z];rfl
end Go.Ev.Ce
namespace Go.Ev.Ce
open Go Go.Ev Go.Ev.L Go.ChangeShapes Go.RowKit
theorem Qd3 (g:Nat→Int) (h:∀ c,c < 3→0≤g c∧g c≤255):∃ a,Rdg (S9 tW) (.agg (ca6 .u8 3 g)) a∧0≤a.b0∧0≤a.b1∧0≤a.b2 :=
 ⟨⟨g 0,g 1,g 2⟩,⟨rfl,rfl⟩,(h 0 (by omega)).1,(h 1 (by omega)).1,(h 2 (by omega)).1⟩
theorem ye6 {D : Type} {enc : TypeId × Value → D} {P : Program} {w : World} {base : Nat} {spare : Nat → Bool} {held : Bool} {ρ : Rho} {H : List b9} {F : Fz} {t e : TypeId} {d : Nat} {v : Value} {dd : DataW D} {pp : List MemPlace} {bs : Nat} {r : Reach}
  (ht:P.underlying t=some (.array 3 e)) (he:P.underlying e=some (.int .u8)) (hts:P.cellTypes P.depth t=some [e,e,e]) (hf:T4 P d t=some (ya5 .u8 3)) (hes:P.cellsOf t=3)
  (hok:Value.okWide P w r bs t v) (h:DataW.Trod enc P w base spare held t v dd pp):∃ g:Nat→Int,(∀ c,c < 3→0≤g c∧g c≤255)∧Y0 ρ H F w (.agg (ca6 .u8 3 g)) v:=by
 obtain⟨g,hv⟩:=we4 (ρ:=ρ) (H:=H) (F:=F) (by simp[agT,ht]) hf hes hok h
 refine⟨g,fun c hc=>?_,hv⟩
 obtain⟨vs,e0,hl,hr⟩:=oa8 (.val hv)
 subst e0
 have hlen:vs.size=3:=by rw[← hl];simp[ca6]
 have hc':c < vs.size:=by omega
 have hg:(ca6 .u8 3 g)[c]?=some (.v (.int .u8 (g c))):=by
  unfold ca6
  rw[List.getElem?_map,List.getElem?_range hc]
  rfl
 have hx:=Z8 (.val (.cell (hr c _ _ hg (Array.getElem?_eq_getElem hc'))))
 unfold Value.okWide at hok
 rw[ht] at hok
 obtain⟨cs,e1,hsz,ts,h1,h2,h3⟩:=hok
 injection e1 with e1
 subst e1
 rw[hts] at h1
 injection h1 with h1
 subst h1
 obtain⟨u,hu,hcell⟩:=h3 c _ (Array.getElem?_eq_getElem hc')
 rw[hx] at hcell
 have hue:u=e:=by
  have:c=0∨c=1∨c=2:=by omega
  rcases this with rfl | rfl | rfl<;>simpa using hu.symm
 subst hue
 simp only[Cell.okWide,Cell.ok,he] at hcell
 have:=hcell.2
 simp only[IntKind.has,IntKind.min,IntKind.max,IntKind.bits,IntKind.signed] at this
 simp at this
 omega
theorem Qd4 (n:Nat) (g:Nat→Nat→Int):∃ l,Rdg (ta7 tW) (.tree 3 n fun j=>ca6 .u8 3 (g j)) l:=by
 refine⟨lsL tW n fun j=>ca6 .u8 3 (g j),?_,Ta9 tW (f:=fun k=>⟨g k 0,g k 1,g k 2⟩) fun _ _=>rfl⟩
 show Bool.rec (motive:=fun _=>Option (List B3)) none (some (lsL tW n fun j=>ca6 .u8 3 (g j))) (Nat.beq 3 3)=_
 rfl
end Go.Ev.Ce
