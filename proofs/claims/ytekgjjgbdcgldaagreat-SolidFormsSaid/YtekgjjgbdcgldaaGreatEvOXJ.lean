/- Own work. -/
import Derived.Test.YtekgjjgbdcgldaaGreatEvOX7
set_option linter.all false
def Qma:=@Nat.zero_add
def Qmb:=@Nat.ble_eq_true_of_le
def Qmc:=@Bool.and_self
def Qmd:=@Int.tmod_eq_emod_of_nonneg
def Qme:=@Classical.axiomOfChoice
def Qmf:=@Nat.zero_le
def Qmg:=@Bool.not_true
def Qmh:=@Nat.le_trans
namespace Go.Ev.Ce
open Go Go.Ev Go.Ev.L Go.Proofs
noncomputable def nf5(c:List Pln):List Pln:=if ful c then c.foldl (Ua5 (pts c)) [] else []
theorem Jc2:lean=nf5:=by
 funext c;unfold lean nf5;rw[se9]
section
variable(L:List Pln->List Pln)
noncomputable def ve4(x fs:List Pln):Nat->List Pln
 |0=>x
 |j+1=>L (ve4 x fs j++[gL tP fs j])
noncomputable def Pf3(x fs:List Pln)(j:Nat):List Pln:=L (ve4 L x fs j++[Ca2 (gL tP fs j)])
noncomputable def Pf4(x fs:List Pln)(j:Nat):List (List Pln):=((List.range j).map (Pf3 L x fs)).filter λc=>decide (0<c.length)
noncomputable def nf6(x fs:List Pln):Bool:=(List.range fs.length).all λj=>decide ((ve4 L x fs j).length<48)
noncomputable def Af8(q x:List Pln):List (List Pln):=if apart x q then [x] else Pf4 L x (L q) (L q).length
noncomputable def Cd7(ps:List (List Pln))(q:List Pln):Option (List (List Pln)) :=
 if ful q then (if ps.all (λx=>apart x q||nf6 L x (L q))&&decide ((ps.flatMap (Af8 L q)).length<=200) then some (ps.flatMap (Af8 L q)) else none) else some ps
noncomputable def nf7(c:List Pln)(s:List (List Pln)):Option (List (List Pln)) :=
 s.foldl (λst q=>st.bind λps=>Cd7 L ps q) (some (if ful c then [L c] else []))
end
theorem Cd8(x fs:List Pln):∀j,ve4 lean x fs j=C5 x fs j
 |0=>rfl
 |j+1=>by
  show lean (ve4 lean x fs j++_)=lean (C5 x fs j++_);rw[Cd8 x fs j]
theorem Af9:Pf3 lean=db6:=by funext x fs j;unfold Pf3 db6;rw[Cd8]
theorem Bf0:Pf4 lean=ia8:=by funext x fs j;unfold Pf4 ia8;rw[Af9]
theorem nf8:nf6 lean=Z4:=by funext x fs;unfold nf6 Z4;simp only[Cd8]
theorem Bf1:Af8 lean=ua3:=by funext q x;unfold Af8 ua3;rw[Bf0]
theorem ve5:Cd7 lean=K6:=by
 funext ps q;unfold Cd7 K6;rw[Bf1,nf8];rfl
theorem Sa5:ya7=nf7 nf5:=by
 funext c s;rw[<- Jc2];unfold ya7 nf7;rw[ve5]
noncomputable def bx(x y z u v w:Int):List Pln:=[⟨⟨1,0,0⟩,u⟩,⟨⟨-1,0,0⟩,-x⟩,⟨⟨0,1,0⟩,v⟩,⟨⟨0,-1,0⟩,-y⟩,⟨⟨0,0,1⟩,w⟩,⟨⟨0,0,-1⟩,-z⟩]
theorem ex1:ya7 (bx 0 0 0 2 1 1) [bx 1 0 0 3 1 1]=some [lean (bx 0 0 0 1 1 1)]:=by rw[Sa5,Jc2];kernel_rfl
theorem ex2:ya7 (bx 0 0 0 3 1 1) [bx 1 0 0 2 1 1]=some [lean (bx 0 0 0 1 1 1),lean (bx 2 0 0 3 1 1)]:=by rw[Sa5,Jc2];kernel_rfl
theorem ex3:ya7 (bx 0 0 0 1 1 1) []=some [lean (bx 0 0 0 1 1 1)]:=by rw[Sa5,Jc2];kernel_rfl
theorem ex4:ya7 (bx 0 0 0 1 1 1) [bx 1 0 0 2 1 1]=some [lean (bx 0 0 0 1 1 1)]:=by rw[Sa5,Jc2];kernel_rfl
theorem ex5:ya7 (bx 0 0 0 2 1 1) [bx 0 0 0 1 1 1,bx 1 0 0 2 1 1]=some []:=by rw[Sa5];kernel_rfl
theorem ex6:ya7 (bx 0 0 0 2 1 1) [bx 0 0 0 1 1 1]=some [lean (bx 1 0 0 2 1 1)]:=by rw[Sa5,Jc2];kernel_rfl
theorem ex7:ya7 (bx 0 0 0 1 1 1) [bx 0 0 0 2 1 1]=some []:=by rw[Sa5];kernel_rfl
theorem ex8:ya7 (bx 1 0 0 2 1 1) [bx 0 0 0 2 1 1]=some []:=by rw[Sa5];kernel_rfl
theorem ex9:ya7 (bx 0 0 0 2 1 1) [bx 1 0 0 2 1 1]=some [lean (bx 0 0 0 1 1 1)]:=by rw[Sa5,Jc2];kernel_rfl
theorem exA:rb3 (bx 0 0 0 1 1 1) [bx 1 0 0 2 1 1,bx 0 1 0 1 2 1]=true:=by kernel_rfl
theorem exC:chk (bx 0 0 0 1 1 1)=0/\chk (bx 1 0 0 2 1 1)=0/\chk (bx 0 0 0 2 1 1)=0/\chk (bx 0 0 0 3 1 1)=0/\chk (bx 1 0 0 3 1 1)=0:=by refine⟨?_,?_,?_,?_,?_⟩<;>kernel_rfl
theorem bx1:(R9 0 0 0 1 1 1=bx 0 0 0 1 1 1/\P0 0 0 0 1 1 1=true)/\(R9 1 0 0 2 1 1=bx 1 0 0 2 1 1/\P0 1 0 0 2 1 1=true)/\(R9 0 0 0 2 1 1=bx 0 0 0 2 1 1/\P0 0 0 0 2 1 1=true):=by refine⟨⟨?_,?_⟩,⟨?_,?_⟩,?_,?_⟩<;>kernel_rfl
theorem bx2:(R9 1 0 0 3 1 1=bx 1 0 0 3 1 1/\P0 1 0 0 3 1 1=true)/\(R9 0 0 0 3 1 1=bx 0 0 0 3 1 1/\P0 0 0 0 3 1 1=true)/\(R9 2 0 0 3 1 1=bx 2 0 0 3 1 1/\P0 2 0 0 3 1 1=true)/\R9 0 1 0 1 2 1=bx 0 1 0 1 2 1/\P0 0 1 0 1 2 1=true:=by refine⟨⟨?_,?_⟩,⟨?_,?_⟩,⟨?_,?_⟩,?_,?_⟩<;>kernel_rfl
theorem Va1(x y z u v w:Int):(bx x y z u v w).length=6:=rfl
theorem Rb3{x:List Pln}{y z:List (List Pln)}(hx:chk x=0)(hy:schk y=0)(hm:ya7 x y=some (z.map lean))(hz:∀c∈z,c.length<=1000)(hzn:z.length<=1000):sa5 x y z=true/\sa6 x y z=true:=by
 have hy':=Zc9 hy;have hyl:∀q∈y,q.length<=1000000:=λq hq=>by have:=zd6 (hy'.2 q hq);omega
 have hxl:=zd6 hx;have e:Ka5 x y=(z.map lean,0):=by unfold Ka5;rw[hx,hy,hm];rfl
 have h:=fb0 (step:=xa0 ⟨z,z.map lean,(z.length:Int)⟩) (mk:=λj=>(⟨(j:Int)⟩:T9)) (c:=λ_=>false) (u:=1) (fin:=2) (tLs tP) z (by omega)
  (λj hj=>by
   have hc:=hz _ (Y0 (tLs tP) hj);have hll:=Kb3 (gL (tLs tP) z j);have hg:gL (tLs tP) (z.map lean) j=lean (gL (tLs tP) z j):=by simp[gL,List.getD_eq_getElem?_getD,List.getElem?_eq_getElem hj]
   have hj2:j<(z.map lean).length:=by rw[List.length_map];exact hj
   have s1:=gf0 (lean (gL (tLs tP) z j)) (by omega);have s2:=gf1 (lean (gL (tLs tP) z j)) (by omega)
   have r1:=yc3 (gL (tLs tP) z j) (by omega);have r2:=Rc8 (gL (tLs tP) z j) (by omega)
   simp only[xa0,sa4,Int.toNat_natCast,i5,j9,hg,r1,r2,s1,s2,n8 hj (show z.length<=4611686018427387904 by omega),f0,p7,Qmg]
   rw[btD (g9 hj),bt (d9 hj2),bt (d9 hj)])
  (by simp only[xa0,sa4];rw[bfD (l0 (Nat.lt_irrefl _))]) 0 (Qmf _)
 rw[List.drop_zero,show (z.any λ_=>false)=false by simp] at h
 have eo:Qa4 x y z=some (b true,[]):=by
  unfold Qa4;simp only[i5,j9,i9,de9 (x:=x) (y:=y) (by omega) (by omega) hyl,ee0 (x:=x) (y:=y) (by omega) (by omega) hyl,e,f0,Qmc]
  rw[show (⟨0⟩:T9)=⟨((0:Nat):Int)⟩ from rfl,h]
  rw[show ((((z.map lean).length:Nat):Int) != (z.length:Int))=false by rw[List.length_map];simp]
  simp only[Bool.false_eq_true,if_false,p7,Ee4,Ee5,f0,show ((0:Int) != 0)=false from rfl]
 unfold sa5 sa6;rw[eo];exact⟨rfl,rfl⟩
theorem nf9{s:List (List Pln)}{c:List Pln}{r:List (List Pln)}(hc:chk c=0)(hs:schk s=0)(hm:ya7 c s=some r):y8 s c=(((r.length:Nat):Int)==0,0):=by
 have e:Ka5 c s=(r,0):=by unfold Ka5;rw[hc,hs,hm];rfl
 unfold y8;rw[e];rfl
theorem fd3:Qa7=some (b true,[]):=by
 obtain⟨⟨a1,a2⟩,⟨a3,a4⟩,a5,a6⟩:=bx1;obtain⟨⟨c1,c2⟩,⟨c3,c4⟩,⟨c5,c6⟩,c7,c8⟩:=bx2;obtain⟨k1,k2,k3,k4,k5⟩:=exC;have s1:∀{a:List Pln},chk a=0->schk [a]=0:=λh=>nd5 (by simp) (by simpa using h)
 have s2:∀{a c:List Pln},chk a=0->chk c=0->schk [a,c]=0:=λh h'=>nd5 (by simp) (by simpa using ⟨h,h'⟩)
 have l1:=Rb3 (z:=[bx 0 0 0 1 1 1]) k3 (s1 k5) ex1 (by simp[Va1]) (by simp)
 have l2:=Rb3 (z:=[bx 0 0 0 1 1 1,bx 2 0 0 3 1 1]) k4 (s1 k2) ex2 (by simp[Va1]) (by simp)
 have l3:=Rb3 (z:=[bx 0 0 0 1 1 1]) k1 (nd5 (s:=[]) (by simp) (by simp)) ex3 (by simp[Va1]) (by simp)
 have l4:=Rb3 (z:=[bx 0 0 0 1 1 1]) k1 (s1 k2) ex4 (by simp[Va1]) (by simp)
 have m1:=Td5 (x:=[bx 0 0 0 1 1 1,bx 1 0 0 2 1 1]) (y:=bx 0 0 0 2 1 1) (z:=true) (by simp[Va1]) (by simp) (by simp[Va1])
 have m2:=Td5 (x:=[bx 0 0 0 1 1 1]) (y:=bx 0 0 0 2 1 1) (z:=false) (by simp[Va1]) (by simp) (by simp[Va1])
 have m3:=Me7 (x:=[bx 0 0 0 2 1 1]) (y:=[bx 0 0 0 1 1 1,bx 1 0 0 2 1 1]) (z:=true) (by simp) (by simp[Va1]) (by simp) (by simp[Va1])
 have m4:=Me7 (x:=[bx 0 0 0 2 1 1]) (y:=[bx 1 0 0 2 1 1]) (z:=false) (by simp) (by simp[Va1]) (by simp) (by simp[Va1])
 have q1:=nf9 k3 (s2 k1 k2) ex5;have q2:=nf9 k3 (s1 k1) ex6;have q3:=nf9 k1 (s1 k3) ex7;have q4:=nf9 k2 (s1 k3) ex8;have q5:=nf9 k3 (s1 k2) ex9;have i1:inR [bx 0 0 0 2 1 1] [bx 0 0 0 1 1 1,bx 1 0 0 2 1 1]=(true,0):=Zb9 (by simp[q1])
 have i2:inR [bx 0 0 0 1 1 1,bx 1 0 0 2 1 1] [bx 0 0 0 2 1 1]=(true,0):=Zb9 (by simp[q3,q4])
 have i3:inR [bx 0 0 0 2 1 1] [bx 1 0 0 2 1 1]=(false,0):=by
  have q5':y8 [bx 1 0 0 2 1 1] (bx 0 0 0 2 1 1)=(false,0):=q5;unfold inR;rw[List.find?_cons_of_pos (by rw[q5'];rfl)]
  exact q5'
 have e1:vb5 [bx 0 0 0 2 1 1] [bx 0 0 0 1 1 1,bx 1 0 0 2 1 1]=(true,0):=by unfold vb5;rw[s1 k3,s2 k1 k2,i1,i2];rfl
 have e2:vb5 [bx 0 0 0 2 1 1] [bx 1 0 0 2 1 1]=(false,0):=by unfold vb5;rw[s1 k3,s1 k2,i3];rfl
 rw[q1] at m1;rw[q2] at m2;rw[e1] at m3;rw[e2] at m4;have z1:V6 [[],[],[],[],[],[],[],[],[],[],[],[],[],[],[],[],[]]=2:=(Zb7 (by simp) (by simp)).trans (by kernel_rfl)
 have z2:V7 [[],[],[],[],[],[],[],[],[],[],[],[],[],[],[],[],[]]=true:=Zb8 (by simp) (by simp)
 have z3:V6 [[(⟨(⟨2,0,0⟩:V3),1⟩:Pln)]]=12:=(Zb7 (by simp) (by simp)).trans (by kernel_rfl)
 have z4:V7 [[(⟨(⟨2,0,0⟩:V3),1⟩:Pln)]]=true:=Zb8 (by simp) (by simp)
 have t1:=te8 (c:=bx 0 0 0 1 1 1) (s:=[bx 1 0 0 2 1 1,bx 0 1 0 1 2 1]) (by simp[Va1]) (by simp) (by simp[Va1])
 have t2:=te9 (c:=bx 0 0 0 1 1 1) (s:=[bx 1 0 0 2 1 1,bx 0 1 0 1 2 1]) (by simp[Va1]) (by simp) (by simp[Va1])
 rw[exA] at t1;unfold Qa7;simp only[a1,a2,a3,a4,a5,a6,c1,c2,c3,c4,c5,c6,c7,c8,i5,j9,Qmc,f0,l1.1,l1.2,l2.1,l2.2,l3.1,l3.2,l4.1,l4.2,m1.1,m1.2,m2.1,m2.2,m3.1,m3.2,m4.1,m4.2,z1,z2,z3,z4,t1,t2];rfl
theorem Fe1:lb2=true:=by unfold lb2;rw[fd3];rfl
theorem Fe2:lb3=true:=by unfold lb3;rw[fd3];rfl
set_option maxRecDepth 100000
structure ve6 where
 bs5:Bool
 O1:List Pln
 (pa3 lb4 Sa7:List (List Pln))
 Fe4:Int
structure ve7 where
 Lb8:Int
structure ng3(own:List Pln)(s r:List (List Pln)):Prop where
 m:Ka5 own s=(r,0)
 n:r.length<=144
 l:∀x∈r,x.length<=37
 full:∀x∈r,ful x=true
 lies:∀x∈r,Ce.lies x own=true
 off:∀x∈r,rb3 x s=true
 dis:∀j,j<r.length->rb3 (gL (tLs tP) r j) (r.take j)=true
 all:(s++r).length<=16->y8 (s++r) own=(true,0)
 self:r.length<=16->(y8 r own).2=9\/((y8 r own).2=0/\(y8 r own).1=rb3 own s)
theorem of0{α:Type}(t:Ty α)(l:List α){n:Nat}(h:n=l.length):lsL t n (λk=>d8 (bL t l) k)=l/\okL t n (λk=>d8 (bL t l) k)=true:=by
 subst h;exact⟨Fc7 t rfl λk hk=>by rw[Q8 t hk],eb8 t (f:=λk=>gL t l k) λk hk=>by rw[Q8 t hk]⟩
theorem Bf2{α:Type}(l:List α):app [] l=l:=rfl
noncomputable def Va2:List (Nat×Sum):=[(37,vc0),(38,fd2),(39,Tc7),(17,Qd3),(40,rb2),(41,uc3),(42,jb4),(43,gc1),(44,uc5),(45,Vb3),(46,ed7),(47,fc9),(48,Bd1),(49,Ya0),(50,Qb2)]
theorem vc1:i8 prog G Va2:=⟨ld0,fe0,Kd4,Ce8,Kb4,Tc2,zb0,Dc4,kd4,uc0,ee3,Dc2,ue4,jb1,gc0,trivial⟩
structure S1 where
 ns3:Nat
 gs3:Nat->List b8
 Cf1:Bool
 Lb9:List Pln
 Cb4:List (List Pln)
 Fe5:Nat
 Fe6:Nat->List b8
 (Ka7 j7 e8 j8:Int)
 bb6:List (List Pln)
 A9:Nat
 B0:Nat->List b8
 B1:Nat
 B4:Nat->List b8
 B5:Nat
 B7:Nat->List b8
 (i6 n5:List Pln)
 r6:Nat
 r7:Nat->List b8
structure K8 where
 xa3:Int
noncomputable def mb2(p:S1)(s:K8):St:=⟨ra 3 (.tree 4 p.ns3 p.gs3::ra 3 (.ptr 0 0 0 0::ra 3 (b p.Cf1::eL tP p.Lb9::eL (tLs tP) p.Cb4::.unk::.unk::.tree 1 p.Fe5 p.Fe6::ra 58 (.sl 1 0 4 0::i 4::i p.Ka7::ra 8 (.sl 2 0 3 0::i 3::i s.xa3::ra 85 []))))),[⟨0,3,[[i p.j7,i p.e8,i p.j8]],true,false,0⟩,⟨31,1,[[eL (tLs tP) p.bb6],[.tree 1 p.A9 p.B0],[.tree 1 p.B1 p.B4],[.tree 1 p.B5 p.B7]],true,false,0⟩,⟨24,1,[[eL tP p.i6],[eL tP p.n5],[.tree 4 p.r6 p.r7]],true,false,0⟩]⟩
noncomputable def ca8{α:Type}(k:K8->α)(e:Nat->α)(z:α)(p:S1)(s:K8):α:=let a0:=(lsL (tLs tP) p.Fe5 p.Fe6);let t1:=(Ya2 (lsL tP (toN (hdA (f8 (d8 [[eL tP p.i6],[eL tP p.n5],[.tree 4 p.r6 p.r7]] (0+s.xa3.toNat)) 0))) (toG (hdA (f8 (d8 [[eL tP p.i6],[eL tP p.n5],[.tree 4 p.r6 p.r7]] (0+s.xa3.toNat)) 0)))) a0);let t2:=(Qb6 (lsL tP (toN (hdA (f8 (d8 [[eL tP p.i6],[eL tP p.n5],[.tree 4 p.r6 p.r7]] (0+s.xa3.toNat)) 0))) (toG (hdA (f8 (d8 [[eL tP p.i6],[eL tP p.n5],[.tree 4 p.r6 p.r7]] (0+s.xa3.toNat)) 0)))) a0);let t3:=(ca1 a0 (lsL tP (toN (hdA (f8 (d8 [[eL tP p.i6],[eL tP p.n5],[.tree 4 p.r6 p.r7]] (0+s.xa3.toNat)) 0))) (toG (hdA (f8 (d8 [[eL tP p.i6],[eL tP p.n5],[.tree 4 p.r6 p.r7]] (0+s.xa3.toNat)) 0)))));let t4:=(Ea5 a0 (lsL tP (toN (hdA (f8 (d8 [[eL tP p.i6],[eL tP p.n5],[.tree 4 p.r6 p.r7]] (0+s.xa3.toNat)) 0))) (toG (hdA (f8 (d8 [[eL tP p.i6],[eL tP p.n5],[.tree 4 p.r6 p.r7]] (0+s.xa3.toNat)) 0)))));let t5:=(kb4 (rt (tLs tP) t1.1) (rt (tLs tP) t2.1));let t6:=(Ya5 (lsL tP (toN (hdA (f8 (d8 [[eL tP p.i6],[eL tP p.n5],[.tree 4 p.r6 p.r7]] (0+s.xa3.toNat)) 0))) (toG (hdA (f8 (d8 [[eL tP p.i6],[eL tP p.n5],[.tree 4 p.r6 p.r7]] (0+s.xa3.toNat)) 0)))) a0);let t7:=(Qb8 (lsL tP (toN (hdA (f8 (d8 [[eL tP p.i6],[eL tP p.n5],[.tree 4 p.r6 p.r7]] (0+s.xa3.toNat)) 0))) (toG (hdA (f8 (d8 [[eL tP p.i6],[eL tP p.n5],[.tree 4 p.r6 p.r7]] (0+s.xa3.toNat)) 0)))) a0);let a1:=(okL (tLs tP) p.Fe5 p.Fe6);(sl (decide (s.xa3<3)) (sl (inB s.xa3 3) (sl (((Nat.blt (0+s.xa3.toNat) (len [[eL tP p.i6],[eL tP p.n5],[.tree 4 p.r6 p.r7]]))&&(Nat.ble (0+1) (len (d8 [[eL tP p.i6],[eL tP p.n5],[.tree 4 p.r6 p.r7]] (0+s.xa3.toNat)))))&&(Y1 [CK.sl 4] (f8 (d8 [[eL tP p.i6],[eL tP p.n5],[.tree 4 p.r6 p.r7]] (0+s.xa3.toNat)) 0))) (sl (okL tP (toN (hdA (f8 (d8 [[eL tP p.i6],[eL tP p.n5],[.tree 4 p.r6 p.r7]] (0+s.xa3.toNat)) 0))) (toG (hdA (f8 (d8 [[eL tP p.i6],[eL tP p.n5],[.tree 4 p.r6 p.r7]] (0+s.xa3.toNat)) 0)))) (sl a1 (sl (Ya3 (lsL tP (toN (hdA (f8 (d8 [[eL tP p.i6],[eL tP p.n5],[.tree 4 p.r6 p.r7]] (0+s.xa3.toNat)) 0))) (toG (hdA (f8 (d8 [[eL tP p.i6],[eL tP p.n5],[.tree 4 p.r6 p.r7]] (0+s.xa3.toNat)) 0)))) a0) (sl (okL tP (toN (hdA (f8 (d8 [[eL tP p.i6],[eL tP p.n5],[.tree 4 p.r6 p.r7]] (0+s.xa3.toNat)) 0))) (toG (hdA (f8 (d8 [[eL tP p.i6],[eL tP p.n5],[.tree 4 p.r6 p.r7]] (0+s.xa3.toNat)) 0)))) (sl a1 (sl (Qb7 (lsL tP (toN (hdA (f8 (d8 [[eL tP p.i6],[eL tP p.n5],[.tree 4 p.r6 p.r7]] (0+s.xa3.toNat)) 0))) (toG (hdA (f8 (d8 [[eL tP p.i6],[eL tP p.n5],[.tree 4 p.r6 p.r7]] (0+s.xa3.toNat)) 0)))) a0) (sl a1 (sl (okL tP (toN (hdA (f8 (d8 [[eL tP p.i6],[eL tP p.n5],[.tree 4 p.r6 p.r7]] (0+s.xa3.toNat)) 0))) (toG (hdA (f8 (d8 [[eL tP p.i6],[eL tP p.n5],[.tree 4 p.r6 p.r7]] (0+s.xa3.toNat)) 0)))) (sl (Ba5 a0 (lsL tP (toN (hdA (f8 (d8 [[eL tP p.i6],[eL tP p.n5],[.tree 4 p.r6 p.r7]] (0+s.xa3.toNat)) 0))) (toG (hdA (f8 (d8 [[eL tP p.i6],[eL tP p.n5],[.tree 4 p.r6 p.r7]] (0+s.xa3.toNat)) 0))))) (sl a1 (sl (okL tP (toN (hdA (f8 (d8 [[eL tP p.i6],[eL tP p.n5],[.tree 4 p.r6 p.r7]] (0+s.xa3.toNat)) 0))) (toG (hdA (f8 (d8 [[eL tP p.i6],[eL tP p.n5],[.tree 4 p.r6 p.r7]] (0+s.xa3.toNat)) 0)))) (sl (kb0 a0 (lsL tP (toN (hdA (f8 (d8 [[eL tP p.i6],[eL tP p.n5],[.tree 4 p.r6 p.r7]] (0+s.xa3.toNat)) 0))) (toG (hdA (f8 (d8 [[eL tP p.i6],[eL tP p.n5],[.tree 4 p.r6 p.r7]] (0+s.xa3.toNat)) 0))))) (sl (t1.2 != t2.2) (e 1) (sl (okE (tLs tP) t1.1) (sl (okE (tLs tP) t2.1) (sl (kb5 (rt (tLs tP) t1.1) (rt (tLs tP) t2.1)) (sl (!t5) (e 1) (sl (!(t3.1==t4.1)) (e 1) (sl (t3.2 != t4.2) (e 1) (sl (okL tP (toN (hdA (f8 (d8 [[eL tP p.i6],[eL tP p.n5],[.tree 4 p.r6 p.r7]] (0+s.xa3.toNat)) 0))) (toG (hdA (f8 (d8 [[eL tP p.i6],[eL tP p.n5],[.tree 4 p.r6 p.r7]] (0+s.xa3.toNat)) 0)))) (sl a1 (sl (Ja6 (lsL tP (toN (hdA (f8 (d8 [[eL tP p.i6],[eL tP p.n5],[.tree 4 p.r6 p.r7]] (0+s.xa3.toNat)) 0))) (toG (hdA (f8 (d8 [[eL tP p.i6],[eL tP p.n5],[.tree 4 p.r6 p.r7]] (0+s.xa3.toNat)) 0)))) a0) (sl (okL tP (toN (hdA (f8 (d8 [[eL tP p.i6],[eL tP p.n5],[.tree 4 p.r6 p.r7]] (0+s.xa3.toNat)) 0))) (toG (hdA (f8 (d8 [[eL tP p.i6],[eL tP p.n5],[.tree 4 p.r6 p.r7]] (0+s.xa3.toNat)) 0)))) (sl a1 (sl (Qb9 (lsL tP (toN (hdA (f8 (d8 [[eL tP p.i6],[eL tP p.n5],[.tree 4 p.r6 p.r7]] (0+s.xa3.toNat)) 0))) (toG (hdA (f8 (d8 [[eL tP p.i6],[eL tP p.n5],[.tree 4 p.r6 p.r7]] (0+s.xa3.toNat)) 0)))) a0) (sl (!(t6==t7)) (e 1) (k ⟨W (s.xa3+1)⟩)) z) z) z) z) z) z)))) z) z) z)) z) z) z) z) z) z) z) z) z) z) z) z) z) z) (e 2))
noncomputable def I7(p:S1)(s:K8):Stp K8:=ca8 .next .exit .fail p s
noncomputable def Qa8:Lo S1 K8:=⟨En Va2,0,pf7,[1,1,1,1,1,1,0,1,4,4,1,1,0,4,1,0,1,4,4],[3,7,11,12,13,16,75,76,77,86,87,88],.p,[⟨ru2 3 (sTq 4::ru2 3 (sPq 0::ru2 3 (sBq::sLq tP::.s (.c 1 (nL (tLs tP)))::sUq::sUq::sTq 1::ru2 58 (.s (.o (.sl 1 0 (some 0) (some 4)))::.s (.o (.lit .i64 4))::sIq::ru2 8 (.s (.o (.sl 2 0 (some 0) (some 3)))::.s (.o (.lit .i64 3))::sIq::ru2 85 []))))),[⟨0,3,true,some [kLq 3]⟩,⟨31,1,true,some [[.c 1 (nL (tLs tP))],[.o (.tree 1)],[.o (.tree 1)],[.o (.tree 1)]]⟩,⟨24,1,true,some [[.c 4 (nL tP)],[.c 4 (nL tP)],[.o (.tree 4)]]⟩],λa H=>(⟨aNq a 3,aGq a 3,aBq a 11,aLq tP a 12,rL (tLs tP) (slT a 13),aNq a 16,aGq a 16,aIq a 77,hIq H 0 0 0,hIq H 0 0 1,hIq H 0 0 2,rL (tLs tP) (slT (rwT (elT H 1) 0) 0),hNq H 1 1 0,hGq H 1 1 0,hNq H 1 2 0,hGq H 1 2 0,hNq H 1 3 0,hGq H 1 3 0,hLq tP H 2 0 0,hLq tP H 2 1 0,hNq H 2 2 0,hGq H 2 2 0⟩,⟨aIq a 88⟩)⟩],I7,[(none,λp s=>⟨[b false],[]⟩),(some 2,λp s=>upq (mb2 p s) [(89,b (decide (s.xa3<3)))])],mb2⟩
theorem lc1:Qa8.Ok:=Lo.ok [] (by kernel_rfl) .nil rfl (.cons (λa H=>by kernel_rfl) .nil) λp s=>(.of @ca8 (λF _ _ _ _ _=>by unfold ca8;(repeat' apply l5 (f:=F))<;>rfl) (by kernel_rfl))
structure K9 where
 ns3:Nat
 gs3:Nat->List b8
 Cf1:Bool
 (j7 e8 j8:Int)
 A9:Nat
 B0:Nat->List b8
 B1:Nat
 B4:Nat->List b8
 B5:Nat
 B7:Nat->List b8
structure H5 where
 Lb9:List Pln
 Cb4:List (List Pln)
 Ka7:Int
 bb6:List (List Pln)
noncomputable def mb3(p:K9)(s:H5):St:=⟨ra 3 (.tree 4 p.ns3 p.gs3::ra 3 (.ptr 0 0 0 0::ra 3 (b p.Cf1::eL tP s.Lb9::eL (tLs tP) s.Cb4::ra 61 (.sl 1 0 4 0::i 4::i s.Ka7::ra 96 [])))),[⟨0,3,[[i p.j7,i p.e8,i p.j8]],true,false,0⟩,⟨31,1,[[eL (tLs tP) s.bb6],[.tree 1 p.A9 p.B0],[.tree 1 p.B1 p.B4],[.tree 1 p.B5 p.B7]],true,false,0⟩]⟩
noncomputable def ca9{α:Type}(k:H5->α)(e:Nat->α)(z:α)(p:K9)(s:H5):α:=let t1:=(ob7 (rt tP s.Lb9) (⟨p.j7,p.e8,p.j8⟩:V3));let a0:=(eL (tLs tP) s.bb6);let t2:=(lp (I7 (⟨p.ns3,p.gs3,p.Cf1,rt tP s.Lb9,rt (tLs tP) s.Cb4,toN (hdA (f8 (d8 [[a0],[.tree 1 p.A9 p.B0],[.tree 1 p.B1 p.B4],[.tree 1 p.B5 p.B7]] (0+s.Ka7.toNat)) 0)),toG (hdA (f8 (d8 [[a0],[.tree 1 p.A9 p.B0],[.tree 1 p.B1 p.B4],[.tree 1 p.B5 p.B7]] (0+s.Ka7.toNat)) 0)),s.Ka7,p.j7,p.e8,p.j8,rt (tLs tP) s.bb6,p.A9,p.B0,p.B1,p.B4,p.B5,p.B7,rt tP s.Lb9,rt tP t1,p.ns3,p.gs3⟩:S1)) (⟨0⟩:K8));let t5:=(V6 (lsL (tLs tP) (toN (hdA (f8 (d8 [[a0],[.tree 1 p.A9 p.B0],[.tree 1 p.B1 p.B4],[.tree 1 p.B5 p.B7]] (0+s.Ka7.toNat)) 0))) (toG (hdA (f8 (d8 [[a0],[.tree 1 p.A9 p.B0],[.tree 1 p.B1 p.B4],[.tree 1 p.B5 p.B7]] (0+s.Ka7.toNat)) 0)))));let t6:=(Pa7 (lsL (tLs tP) (toN (hdA (f8 (d8 [[a0],[.tree 1 p.A9 p.B0],[.tree 1 p.B1 p.B4],[.tree 1 p.B5 p.B7]] (0+s.Ka7.toNat)) 0))) (toG (hdA (f8 (d8 [[a0],[.tree 1 p.A9 p.B0],[.tree 1 p.B1 p.B4],[.tree 1 p.B5 p.B7]] (0+s.Ka7.toNat)) 0)))));let a1:=(rt (tLs tP) (rt (tLs tP) s.Cb4));let t3:=(jb7 a1 (lsL (tLs tP) (toN (hdA (f8 (d8 [[a0],[.tree 1 p.A9 p.B0],[.tree 1 p.B1 p.B4],[.tree 1 p.B5 p.B7]] (0+s.Ka7.toNat)) 0))) (toG (hdA (f8 (d8 [[a0],[.tree 1 p.A9 p.B0],[.tree 1 p.B1 p.B4],[.tree 1 p.B5 p.B7]] (0+s.Ka7.toNat)) 0)))));let t4:=(gc2 a1 (lsL (tLs tP) (toN (hdA (f8 (d8 [[a0],[.tree 1 p.A9 p.B0],[.tree 1 p.B1 p.B4],[.tree 1 p.B5 p.B7]] (0+s.Ka7.toNat)) 0))) (toG (hdA (f8 (d8 [[a0],[.tree 1 p.A9 p.B0],[.tree 1 p.B1 p.B4],[.tree 1 p.B5 p.B7]] (0+s.Ka7.toNat)) 0)))));(sl (decide (s.Ka7<4)) (sl (inB s.Ka7 4) (sl (((Nat.blt (0+s.Ka7.toNat) (len [[a0],[.tree 1 p.A9 p.B0],[.tree 1 p.B1 p.B4],[.tree 1 p.B5 p.B7]]))&&(Nat.ble (0+1) (len (d8 [[a0],[.tree 1 p.A9 p.B0],[.tree 1 p.B1 p.B4],[.tree 1 p.B5 p.B7]] (0+s.Ka7.toNat)))))&&(Y1 [CK.sl 1] (f8 (d8 [[a0],[.tree 1 p.A9 p.B0],[.tree 1 p.B1 p.B4],[.tree 1 p.B5 p.B7]] (0+s.Ka7.toNat)) 0))) (sl (okE tP s.Lb9) (sl (xc8 (rt tP s.Lb9) (⟨p.j7,p.e8,p.j8⟩:V3)) (sl ((cnE tP s.Lb9)&&((cnE (tLs tP) s.Cb4)&&((cnE (tLs tP) s.bb6)&&((cnE tP s.Lb9)&&((cnE tP t1)&&true))))) (sl (Nat.beq t2.1 1) (e 1) (sl (Nat.beq t2.1 2) (sl (okE (tLs tP) (rt (tLs tP) s.Cb4)) (sl (okL (tLs tP) (toN (hdA (f8 (d8 [[a0],[.tree 1 p.A9 p.B0],[.tree 1 p.B1 p.B4],[.tree 1 p.B5 p.B7]] (0+s.Ka7.toNat)) 0))) (toG (hdA (f8 (d8 [[a0],[.tree 1 p.A9 p.B0],[.tree 1 p.B1 p.B4],[.tree 1 p.B5 p.B7]] (0+s.Ka7.toNat)) 0)))) (sl (jb8 a1 (lsL (tLs tP) (toN (hdA (f8 (d8 [[a0],[.tree 1 p.A9 p.B0],[.tree 1 p.B1 p.B4],[.tree 1 p.B5 p.B7]] (0+s.Ka7.toNat)) 0))) (toG (hdA (f8 (d8 [[a0],[.tree 1 p.A9 p.B0],[.tree 1 p.B1 p.B4],[.tree 1 p.B5 p.B7]] (0+s.Ka7.toNat)) 0))))) (sl (okE (tLs tP) (rt (tLs tP) s.Cb4)) (sl (okL (tLs tP) (toN (hdA (f8 (d8 [[a0],[.tree 1 p.A9 p.B0],[.tree 1 p.B1 p.B4],[.tree 1 p.B5 p.B7]] (0+s.Ka7.toNat)) 0))) (toG (hdA (f8 (d8 [[a0],[.tree 1 p.A9 p.B0],[.tree 1 p.B1 p.B4],[.tree 1 p.B5 p.B7]] (0+s.Ka7.toNat)) 0)))) (sl (gc3 a1 (lsL (tLs tP) (toN (hdA (f8 (d8 [[a0],[.tree 1 p.A9 p.B0],[.tree 1 p.B1 p.B4],[.tree 1 p.B5 p.B7]] (0+s.Ka7.toNat)) 0))) (toG (hdA (f8 (d8 [[a0],[.tree 1 p.A9 p.B0],[.tree 1 p.B1 p.B4],[.tree 1 p.B5 p.B7]] (0+s.Ka7.toNat)) 0))))) (sl (!(t3.1==t4.1)) (e 1) (sl (t3.2 != t4.2) (e 1) (sl (okL (tLs tP) (toN (hdA (f8 (d8 [[a0],[.tree 1 p.A9 p.B0],[.tree 1 p.B1 p.B4],[.tree 1 p.B5 p.B7]] (0+s.Ka7.toNat)) 0))) (toG (hdA (f8 (d8 [[a0],[.tree 1 p.A9 p.B0],[.tree 1 p.B1 p.B4],[.tree 1 p.B5 p.B7]] (0+s.Ka7.toNat)) 0)))) (sl (V7 (lsL (tLs tP) (toN (hdA (f8 (d8 [[a0],[.tree 1 p.A9 p.B0],[.tree 1 p.B1 p.B4],[.tree 1 p.B5 p.B7]] (0+s.Ka7.toNat)) 0))) (toG (hdA (f8 (d8 [[a0],[.tree 1 p.A9 p.B0],[.tree 1 p.B1 p.B4],[.tree 1 p.B5 p.B7]] (0+s.Ka7.toNat)) 0))))) (sl (okL (tLs tP) (toN (hdA (f8 (d8 [[a0],[.tree 1 p.A9 p.B0],[.tree 1 p.B1 p.B4],[.tree 1 p.B5 p.B7]] (0+s.Ka7.toNat)) 0))) (toG (hdA (f8 (d8 [[a0],[.tree 1 p.A9 p.B0],[.tree 1 p.B1 p.B4],[.tree 1 p.B5 p.B7]] (0+s.Ka7.toNat)) 0)))) (sl (Pa8 (lsL (tLs tP) (toN (hdA (f8 (d8 [[a0],[.tree 1 p.A9 p.B0],[.tree 1 p.B1 p.B4],[.tree 1 p.B5 p.B7]] (0+s.Ka7.toNat)) 0))) (toG (hdA (f8 (d8 [[a0],[.tree 1 p.A9 p.B0],[.tree 1 p.B1 p.B4],[.tree 1 p.B5 p.B7]] (0+s.Ka7.toNat)) 0))))) (sl (t5 != t6) (e 1) (k ⟨rt tP s.Lb9,rt (tLs tP) s.Cb4,W (s.Ka7+1),rt (tLs tP) s.bb6⟩)) z) z) z) z))) z) z) z) z) z) z) z)) z) z) z) z) z) (e 2))
noncomputable def D5(p:K9)(s:H5):Stp H5:=ca9 .next .exit .fail p s
noncomputable def Qa9:Lo K9 H5:=⟨En Va2,0,pf7,[1,1,1,1,1,1,0,1,4,4],[3,7,11,12,13,75,76,77],.s .p (.s .p (.s (.b (.s .p (.s (.s .p (.b (.u Qa8.ls))) .p))) .p)),[⟨ru2 3 (sTq 4::ru2 3 (sPq 0::ru2 3 (sBq::sLq tP::.s (.c 1 (nL (tLs tP)))::ru2 61 (.s (.o (.sl 1 0 (some 0) (some 4)))::.s (.o (.lit .i64 4))::sIq::ru2 96 [])))),[⟨0,3,true,some [kLq 3]⟩,⟨31,1,true,some [[.c 1 (nL (tLs tP))],[.o (.tree 1)],[.o (.tree 1)],[.o (.tree 1)]]⟩],λa H=>(⟨aNq a 3,aGq a 3,aBq a 11,hIq H 0 0 0,hIq H 0 0 1,hIq H 0 0 2,hNq H 1 1 0,hGq H 1 1 0,hNq H 1 2 0,hGq H 1 2 0,hNq H 1 3 0,hGq H 1 3 0⟩,⟨aLq tP a 12,rL (tLs tP) (slT a 13),aIq a 77,rL (tLs tP) (slT (rwT (elT H 1) 0) 0)⟩)⟩],D5,[(none,λp s=>⟨[b false],[]⟩),(some 0,λp s=>upq (mb3 p s) [(78,b (decide (s.Ka7<4)))])],mb3⟩
theorem lc2:Qa9.Ok:=Lo.ok [Qa8.pr] (by kernel_rfl) (.cons lc1 .nil) rfl (.cons (λa H=>by kernel_rfl) .nil) λp s=>(.of @ca9 (λF _ _ _ _ _=>by unfold ca9;(repeat' apply l5 (f:=F))<;>rfl) (by kernel_rfl))
noncomputable def sa8(x:List Int)(y:List (List Int))(z:V3)(w:List Pln)(v:Int):Option (b8×List b9):=let t1:=lb2;let t2:=(db3 (rt tI x));let t3:=(kb9 (rt (tLs tI) y) 3);let a0:=(n9 (λk=>(tLs tP).row (gL (tLs tP) t3 k)) (List.range (List.length t3)));let a2:=(W (15+(Int.tmod (W v) 3)));let a3:=(if 3<(↑(List.length w):Int) then 3 else (↑(List.length w):Int));let a4:=(Int.tmod (W v) (↑(0+(len a0)):Int));let a1:=(d8 (app [] a0) (0+a4.toNat));let t4:=(ob7 (lsL tP (toN (hdA (f8 a1 0))) (toG (hdA (f8 a1 0)))) z);let a5:=(λk=>(λk=>(tP).row (gL tP w k)) (0+k));let t5:=(lp (D5 (⟨a3.toNat-0,a5,t1,z.x,z.y,z.z,0+(len a0),(λk=>d8 (setAt (app [] a0) (0+a4.toNat) (S3 a1 0 [eL tP t4])) (0+k)),1+(len a0),(λk=>d8 (app [[.tree 4 (a3.toNat-0) a5]] a0) (0+k)),a2.toNat,(λi=>d8 (List.replicate a2.toNat [.v (.slice none 0 0)]) (0+i))⟩:K9)) (⟨rt tP t2,rt (tLs tP) t3,0,rt (tLs tP) t3⟩:H5));let t6:=(lp (D5 (⟨a3.toNat-0,a5,t1,z.x,z.y,z.z,0+(len a0),(λk=>d8 (app [] a0) (0+k)),1+(len a0),(λk=>d8 (app [[.tree 4 (a3.toNat-0) a5]] a0) (0+k)),a2.toNat,(λi=>d8 (List.replicate a2.toNat [.v (.slice none 0 0)]) (0+i))⟩:K9)) (⟨rt tP t2,rt (tLs tP) t3,0,rt (tLs tP) t3⟩:H5));(sl lb3 (sl (okE tI x) (sl (Rb1 (rt tI x)) (sl (okE (tLs tI) y) (sl (Cb2 (rt (tLs tI) y) 3) (sl (inB a3 ((List.length w)+1)) (sl (Nat.beq 0 0&&Nat.ble ((0+(len a0))*24) room) (sl (decide ((↑(0+(len a0)):Int)>0)) (sl ((↑(0+(len a0)):Int)==0) none (sl ((↑(0+(len a0)):Int)==0) none (sl (inB a4 (0+(len a0))) (sl (((Nat.blt (0+a4.toNat) (len (app [] a0)))&&(Nat.ble (0+1) (len a1)))&&(Y1 [CK.sl 4] (f8 a1 0))) (sl (okL tP (toN (hdA (f8 a1 0))) (toG (hdA (f8 a1 0)))) (sl (xc8 (lsL tP (toN (hdA (f8 a1 0))) (toG (hdA (f8 a1 0)))) z) (sl (inB a4 (0+(len a0))) (sl ((Nat.blt (0+a4.toNat) (len (app [] a0)))&&(Nat.ble (0+1) (len a1))) (sl (Nat.beq 1 1&&Nat.ble ((1+(len a0))*24) room) (sl (inB a2 (room+1)&&inB a2 (room+1)&&Nat.ble a2.toNat a2.toNat&&Nat.ble (a2.toNat*24) room) (sl ((cnE tP t2)&&((cnE (tLs tP) t3)&&((cnE (tLs tP) t3)&&true))) (sl (Nat.beq t5.1 1) (some (b false,[])) (sl (Nat.beq t5.1 2) (some (b t1,[])) none)) none) none) none) none) none) none) none) none) none))) (sl (Nat.beq 1 1&&Nat.ble ((1+(len a0))*24) room) (sl (inB a2 (room+1)&&inB a2 (room+1)&&Nat.ble a2.toNat a2.toNat&&Nat.ble (a2.toNat*24) room) (sl ((cnE tP t2)&&((cnE (tLs tP) t3)&&((cnE (tLs tP) t3)&&true))) (sl (Nat.beq t6.1 1) (some (b false,[])) (sl (Nat.beq t6.1 2) (some (b t1,[])) none)) none) none) none)) none) none) none) none) none) none) none)
noncomputable def Ea6(x:List Int)(y:List (List Int))(z:V3)(w:List Pln)(v:Int):Bool:=I6 (one r1B) (sa8 x y z w v)
noncomputable def Ea7(x:List Int)(y:List (List Int))(z:V3)(w:List Pln)(v:Int):Bool:=okO (one r1B) (sa8 x y z w v)
noncomputable def Jc3:Sum:=je3 (G4 tI) (G4 (tLs tI)) (da1 tV) (G4 tP) cU (λx y z w v=>.guard (Ea7 x y z w v) (.ret ((one r1B).enc (Ea6 x y z w v),[])))
theorem Ac0:i7 prog G 7 Jc3:=bg0 (bd b7 vc1) (one r1B) (o:=sa8) λx y z w v=>ma5 (.s .p (.s .p (.s .p (.s .p (.s .p (.s .p (.s (.s .p (.b (.u Qa9.ls))) .p))))))) [Qa9.pr] (by kernel_rfl) (.cons lc2 .nil) (by kernel_rfl)
structure Bs(X:List (List Pln)):Prop where
 n:X.length<=1000000
 l:∀q∈X,q.length<=1000000
theorem Ve4(y:List Pln)(x:List (List Pln)):Bs (Ka5 y x).1:=by
 unfold Ka5;split
 ·exact⟨by simp,λq hq=>by simp at hq⟩
 ·split
  ·exact⟨by simp,λq hq=>by simp at hq⟩
  ·rename_i h1 h2;have hc:chk y=0:=by simpa using h1
   have key:∀(s ps r:List (List Pln)),ps.length<=200->(∀c∈ps,c.length<=48)->Ha6 s (some ps)=some r->r.length<=200/\∀c∈r,c.length<=48:=λs=>by
    induction s with
    |nil =>
     intro ps r h1 h2 h
     have:some ps=some r:=h
     injection this with this;subst this;exact⟨h1,h2⟩
    |cons q s ih =>
     intro ps r h1 h2 h;have h:Ha6 s (K6 ps q)=some r:=h;cases hw:K6 ps q with
     |none=>rw[hw,Kb5] at h;cases h
     |some ps' =>
      rw[hw] at h;exact ih ps' r (jb5 hw h1) (vb2 hw h2) h
   cases hm:ya7 y x with
   |none=>exact⟨by simp,λq hq=>by simp at hq⟩
   |some r =>
    obtain⟨k1,k2⟩:=key x _ r (by split<;>simp) (λc hc'=>by
     split at hc'
     ·rw[List.mem_singleton.1 hc'];exact Qmh (Kb3 y) (zd6 hc)
     ·cases hc') (show Ha6 x (some (if ful y then [lean y] else []))=some r from hm)
    exact⟨Qmh k1 (by omega),λq hq=>Qmh (k2 q hq) (by omega)⟩
theorem of1 (p : S1) (X : List (List Pln)) (Y : List Pln) (j : Nat) (hj : j < 3) (hX : lsL (tLs tP) p.Fe5 p.Fe6 = X) (oX : okL (tLs tP) p.Fe5 p.Fe6 = true) (bX : Bs X) (bY : Y.length ≤ 1000000)
  (hck:(((Nat.blt (0+j) (len [[eL tP p.i6],[eL tP p.n5],[.tree 4 p.r6 p.r7]]))&&(Nat.ble (0+1) (len (d8 [[eL tP p.i6],[eL tP p.n5],[.tree 4 p.r6 p.r7]] (0+j)))))&&(Y1 [CK.sl 4] (f8 (d8 [[eL tP p.i6],[eL tP p.n5],[.tree 4 p.r6 p.r7]] (0+j)) 0)))=true)
  (hY:lsL tP (toN (hdA (f8 (d8 [[eL tP p.i6],[eL tP p.n5],[.tree 4 p.r6 p.r7]] (0+j)) 0))) (toG (hdA (f8 (d8 [[eL tP p.i6],[eL tP p.n5],[.tree 4 p.r6 p.r7]] (0+j)) 0)))=Y)
  (oY:okL tP (toN (hdA (f8 (d8 [[eL tP p.i6],[eL tP p.n5],[.tree 4 p.r6 p.r7]] (0+j)) 0))) (toG (hdA (f8 (d8 [[eL tP p.i6],[eL tP p.n5],[.tree 4 p.r6 p.r7]] (0+j)) 0)))=true) :
  I7 p ⟨(j:Int)⟩=.next ⟨((j+1:Nat):Int)⟩:=by
 have hb:=Ve4 Y X;simp only[I7,ca8,Int.toNat_natCast,hX,oX,hck,hY,oY,i5,j9,de9 bY bX.n bX.l,ee0 bY bX.n bX.l,ue6 bY bX.n bX.l,ue7 bY bX.n bX.l,tc9 bY bX.n bX.l,zd8 bY bX.n bX.l,ad6 bY bX.n bX.l,Sd4 bY bX.n bX.l,
  Ee7 hb.n hb.l,Ee8 hb.n hb.l,te8 bY bX.n bX.l,te9 bY bX.n bX.l,Ue6 bY bX.n bX.l,Ue7 bY bX.n bX.l,bne_self_eq_false,beq_self_eq_true,Qmg,n8 hj (show 3<=4611686018427387904 by omega),f0,p7]
 rw[btD (show (j:Int)<3 by omega),bt (d9 hj)]
theorem of2 (p : S1) (X : List (List Pln)) (raw : List Pln) (hX : lsL (tLs tP) p.Fe5 p.Fe6 = X) (oX : okL (tLs tP) p.Fe5 p.Fe6 = true) (bX : Bs X)
  (b0:p.i6.length<=1000000) (b1:p.n5.length<=1000000) (hr:lsL tP p.r6 p.r7=raw) (or:okL tP p.r6 p.r7=true) (b2:raw.length<=1000000) :
  lp (I7 p) ⟨0⟩=(2,⟨3⟩):=by
 have h:=za2 (step:=I7 p) (mk:=λj=>(⟨(j:Int)⟩:K8)) (c:=λ_=>false) (u:=1) (fin:=2) tI [0,0,0] (by simp)
  (λj hj=>by
   show _=Stp.next _
   match j,hj with
   |0,_=>exact of1 p X p.i6 0 (by omega) hX oX bX b0 rfl (i5 tP _) (j9 tP _)
   |1,_=>exact of1 p X p.n5 1 (by omega) hX oX bX b1 rfl (i5 tP _) (j9 tP _)
   |2,_=>exact of1 p X raw 2 (by omega) hX oX bX b2 rfl hr or)
  (by
   show I7 p ⟨((3:Nat):Int)⟩=_;simp only[I7,ca8];rw[bfD (by decide)]) 0 (Qmf _)
 exact h
theorem fe1 (p : K9) (own raw : List Pln) (s X : List (List Pln)) (j : Nat) (hj : j < 4) (bo : own.length ≤ 900000) (bs : Bs s) (bX : Bs X) (hr : lsL tP p.ns3 p.gs3 = raw) (or : okL tP p.ns3 p.gs3 = true) (br : raw.length ≤ 1000000)
  (hck:(((Nat.blt (0+j) (len [[eL (tLs tP) s],[.tree 1 p.A9 p.B0],[.tree 1 p.B1 p.B4],[.tree 1 p.B5 p.B7]]))&&(Nat.ble (0+1) (len (d8 [[eL (tLs tP) s],[.tree 1 p.A9 p.B0],[.tree 1 p.B1 p.B4],[.tree 1 p.B5 p.B7]] (0+j)))))&&(Y1 [CK.sl 1] (f8 (d8 [[eL (tLs tP) s],[.tree 1 p.A9 p.B0],[.tree 1 p.B1 p.B4],[.tree 1 p.B5 p.B7]] (0+j)) 0)))=true)
  (hX:lsL (tLs tP) (toN (hdA (f8 (d8 [[eL (tLs tP) s],[.tree 1 p.A9 p.B0],[.tree 1 p.B1 p.B4],[.tree 1 p.B5 p.B7]] (0+j)) 0))) (toG (hdA (f8 (d8 [[eL (tLs tP) s],[.tree 1 p.A9 p.B0],[.tree 1 p.B1 p.B4],[.tree 1 p.B5 p.B7]] (0+j)) 0)))=X)
  (oX:okL (tLs tP) (toN (hdA (f8 (d8 [[eL (tLs tP) s],[.tree 1 p.A9 p.B0],[.tree 1 p.B1 p.B4],[.tree 1 p.B5 p.B7]] (0+j)) 0))) (toG (hdA (f8 (d8 [[eL (tLs tP) s],[.tree 1 p.A9 p.B0],[.tree 1 p.B1 p.B4],[.tree 1 p.B5 p.B7]] (0+j)) 0)))=true) :
  D5 p ⟨own,s,(j:Int),s⟩=.next ⟨own,s,((j+1:Nat):Int),s⟩:=by
 have hodd:=Gf6 own ⟨p.j7,p.e8,p.j8⟩ (by omega)
 have godd:=Gf5 own ⟨p.j7,p.e8,p.j8⟩ (by omega)
 simp only[D5,ca9,Int.toNat_natCast,i5,j9,i9];rw[of2 _ X raw hX oX bX (by show own.length<=1000000;omega) (by show (ob7 own _).length<=1000000;omega) hr or br]
 simp only[hX,oX,hck,godd,Me0 bs.n bs.l bX.n bX.l,Me1 bs.n bs.l bX.n bX.l,lf8 bs.n bs.l bX.n bX.l,lf9 bs.n bs.l bX.n bX.l,Zb7 bX.n bX.l,Zb8 bX.n bX.l,yc6 bX.n bX.l,yc7 bX.n bX.l,bne_self_eq_false,beq_self_eq_true,Qmg,Qmc,Ee4,Ee5,n8 hj (show 4<=4611686018427387904 by omega),f0,p7]
 rw[btD (show (j:Int)<4 by omega),bt (d9 hj)]
structure Tr(n:Nat)(g:Nat->List b8):Prop where
 o:okL (tLs tP) n g=true
 b:Bs (lsL (tLs tP) n g)
theorem ve8 (p : K9) (own raw : List Pln) (s : List (List Pln)) (bo : own.length ≤ 900000) (bs : Bs s) (hr : lsL tP p.ns3 p.gs3 = raw) (or : okL tP p.ns3 p.gs3 = true) (br : raw.length ≤ 1000000)
  (t1:Tr p.A9 p.B0) (t2:Tr p.B1 p.B4) (t3:Tr p.B5 p.B7) :
  lp (D5 p) ⟨own,s,0,s⟩=(2,⟨own,s,4,s⟩):=by
 have h:=za2 (step:=D5 p) (mk:=λj=>(⟨own,s,(j:Int),s⟩:H5)) (c:=λ_=>false) (u:=1) (fin:=2) tI [0,0,0,0] (by simp)
  (λj hj=>by
   show _=Stp.next _
   match j,hj with
   |0,_=>exact fe1 p own raw s s 0 (by omega) bo bs bs hr or br rfl (i5 (tLs tP) _) (j9 (tLs tP) _)
   |1,_=>exact fe1 p own raw s _ 1 (by omega) bo bs t1.b hr or br rfl rfl t1.o
   |2,_=>exact fe1 p own raw s _ 2 (by omega) bo bs t2.b hr or br rfl rfl t2.o
   |3,_=>exact fe1 p own raw s _ 3 (by omega) bo bs t3.b hr or br rfl rfl t3.o)
  (by
   show D5 p ⟨own,s,((4:Nat):Int),s⟩=_;simp only[D5,ca9];rw[bfD (by decide)]) 0 (Qmf _)
 exact h
theorem Hf0{n:Nat}{l:List (List Pln)}(hn:n=l.length)(h:Bs l):Tr n (λk=>d8 (bL (tLs tP) l) (0+k)):=by
 obtain⟨h1,h2⟩:=of0 (tLs tP) l hn;simp only[Qma];exact⟨h2,by rw[h1];exact h⟩
theorem in3(x:List Pln):inB (if 3<(x.length:Int) then 3 else (x.length:Int)) (x.length+1)=true:=by
 rw[Mc8];apply decide_eq_true
 split<;>omega
theorem Hf1{n:Nat}{g:Nat->List b8}(hn:n<=1000000)(h:∀k,k<n->(tLs tP).ok (g k)=true/\((tLs tP).rd (g k)).length<=1000000):Tr n g:=by
 refine⟨?_,?_,λq hq=>?_⟩
 ·unfold okL;rw[List.all_eq_true];exact λk hk=>(h k (List.mem_range.1 hk)).1
 ·rw[wc5];exact hn
 ·unfold lsL at hq;obtain⟨k,hk,rfl⟩:=List.mem_map.1 hq;exact (h k (List.mem_range.1 hk)).2
theorem Bf3{n m:Nat}{g:Nat->List b8}{s:List (List Pln)}(hs:Bs s)(hsn:s.length<=1000)(hn:n=1+s.length)(hg:okL tP m g=true)(hm:m<=1000000):Tr n (λk=>d8 (app [[b8.tree 4 m g]] (bL (tLs tP) s)) (0+k)):=by
 refine Hf1 (by omega) λk hk=>?_
 cases k with
 |zero=>exact⟨hg,by show (lsL tP m g).length<=_;rw[wc5];exact hm⟩
 |succ k =>
  have e:d8 (app [[b8.tree 4 m g]] (bL (tLs tP) s)) (0+(k+1))=(tLs tP).row (gL (tLs tP) s k):=by
   rw[Qma];exact Q8 (tLs tP) (show k<s.length by omega)
  rw[e];refine⟨(tLs tP).h2 _,?_⟩;rw[(tLs tP).h1];exact hs.l _ (Y0 (tLs tP) (by omega))
theorem Bf4{n:Nat}(hn:n<=1000):Tr n (λk=>d8 (List.replicate n [.v (.slice none 0 0)]) (0+k)):=by
 refine Hf1 (by omega) λk hk=>?_
 have e:d8 (List.replicate n [b8.v (.slice none 0 0)]) (0+k)=[.v (.slice none 0 0)]:=by
  unfold d8;rw[Qma,D9,List.getElem?_replicate,if_pos hk]
 rw[e];exact⟨rfl,Qmf _⟩
theorem Pf5{s:List (List Pln)}{c:List Pln}(hs:Bs s)(hc:c.length<=1000000)(k:Nat):Bs (s.set k c):=by
 refine⟨by rw[List.length_set];exact hs.n,λq hq=>?_⟩
 rcases List.mem_or_eq_of_mem_set hq with h|rfl
 ·exact hs.l q h
 ·exact hc
theorem Td6(x:List Int)(y:List (List Int))(z:V3)(w:List Pln)(v:Int)(h0:0<=v)(h1:v<=255):sa8 x y z w v=some (b true,[]):=by
 have ho:Mc (db3 x):=ag1 x;have hs:Ms 3 (kb9 y 3):=Af6 y 3 (by omega)
 have gs:Cb2 y 3=true:=Af7 y 3 (by omega)
 have hraw:=eb8 tP (n:=(if 3<(w.length:Int) then 3 else (w.length:Int)).toNat-0) (f:=λk=>gL tP w (0+k)) (get:=λk=>(λk=>tP.row (gL tP w k)) (0+k)) λ_ _=>rfl
 have hn3:(if 3<(w.length:Int) then 3 else (w.length:Int)).toNat-0<=3:=by split<;>omega
 have hwv:W v=v:=ka5 (by omega) (by omega)
 have hm3:0<=Int.tmod v 3/\Int.tmod v 3<=2:=by
  rw[Qmd h0];omega
 have hw2:W (15+Int.tmod v 3)=15+Int.tmod v 3:=ka5 (by omega) (by omega)
 unfold sa8;simp only[i5,j9,i9,Fe1,Fe2,ag2,gs,in3,Fa1,Bf2,f0,Qmc,H7,hwv,hw2];generalize (λk=>(λk=>tP.row (gL tP w k)) (0+k))=graw at *
 generalize (if 3<(w.length:Int) then 3 else (w.length:Int)).toNat-0=nraw at *
 generalize db3 x=own at *
 generalize kb9 y 3=s at *
 have hol:=ho.l;have hsn:=hs.n;have bs:Bs s:=⟨by omega,λq hq=>by have:=(hs.c q hq).l;omega⟩
 obtain⟨m,hm,hm15⟩:∃m:Nat,(15+Int.tmod v 3).toNat=m/\m<=17:=⟨_,rfl,by omega⟩
 have hmi:(15+Int.tmod v 3)=(m:Int):=by omega
 have t2:Tr (1+s.length) _:=Bf3 (n:=1+s.length) bs (by omega) rfl hraw (by omega)
 have t3:Tr m _:=Bf4 (by omega)
 have hin:inB (15+Int.tmod v 3) (room+1)=true:=by
  rw[hmi];exact d9 (by unfold room;omega)
 have r1:Nat.ble (s.length*24) room=true:=Qmb (by unfold room;omega)
 have r2:Nat.ble ((1+s.length)*24) room=true:=Qmb (by unfold room;omega)
 have r3:Nat.ble m m=true:=Qmb (Nat.le_refl _);have r4:Nat.ble (m*24) room=true:=Qmb (by unfold room;omega)
 have br:(lsL tP nraw graw).length<=1000000:=by rw[wc5];omega
 have b21:Nat.beq 2 1=false:=rfl;have b11:Nat.beq 1 1=true:=rfl;have b22:Nat.beq 2 2=true:=rfl;have b00:Nat.beq 0 0=true:=rfl;simp only[Qma,hm,hin,r1,r2,r3,r4,b00,b11,Qmc,f0];by_cases hsz:s.length=0
 ·have hd:decide (((s.length:Nat):Int)>0)=false:=decide_eq_false (by omega)
  have hT:=ve8 ⟨nraw,graw,true,z.x,z.y,z.z,s.length,λk=>d8 (bL (tLs tP) s) k,1+s.length,λk=>d8 (app [[b8.tree 4 nraw graw]] (bL (tLs tP) s)) k,m,λk=>d8 (List.replicate m [.v (.slice none 0 0)]) k⟩ own _ s (by omega) bs rfl hraw br (by have:=Hf0 (n:=s.length) rfl bs;simpa only[Qma] using this) (by simpa only[Qma] using t2) (by simpa only[Qma] using t3)
  rw[hd,hT];simp only[p7,b21,b22,f0]
 ·have hpos:0<s.length:=by omega
  have hd:decide (((s.length:Nat):Int)>0)=true:=decide_eq_true (by omega)
  have hz:(((s.length:Nat):Int)==0)=false:=by
   rw[beq_eq_false_iff_ne];omega
  have hk0:0<=Int.tmod v (s.length:Int)/\Int.tmod v (s.length:Int)<(s.length:Int):=by
   rw[Qmd h0];exact⟨Int.emod_nonneg _ (by omega),Int.emod_lt_of_pos _ (by omega)⟩
  obtain⟨k,hk⟩:∃k:Nat,Int.tmod v (s.length:Int)=(k:Int):=⟨_,(Int.toNat_of_nonneg hk0.1).symm⟩;rw[hk] at hk0 ⊢;have hkl:k<s.length:=by omega
  have hrow:d8 (bL (tLs tP) s) k=[eL tP (gL (tLs tP) s k)]:=Q8 (tLs tP) hkl;have hc:=bs.l _ (Y0 (tLs tP) hkl);have hc12:=(hs.c _ (Y0 (tLs tP) hkl)).l;have e1:lsL tP (toN (hdA (f8 [eL tP (gL (tLs tP) s k)] 0))) (toG (hdA (f8 [eL tP (gL (tLs tP) s k)] 0)))=gL (tLs tP) s k:=i5 tP _;have e2:okL tP (toN (hdA (f8 [eL tP (gL (tLs tP) s k)] 0))) (toG (hdA (f8 [eL tP (gL (tLs tP) s k)] 0)))=true:=j9 tP _;have go:=Gf5 (gL (tLs tP) s k) z hc;have po:=Gf6 (gL (tLs tP) s k) z hc;have sp:∀c:List Pln,S3 [eL tP (gL (tLs tP) s k)] 0 [eL tP c]=(tLs tP).row c:=λc=>rfl
  have bl:Nat.blt k s.length=true:=by rw[Nat.blt_eq];exact hkl
  have ck:(Nat.ble 1 (len [eL tP (gL (tLs tP) s k)])&&Y1 [CK.sl 4] (f8 [eL tP (gL (tLs tP) s k)] 0))=true:=rfl;have ck1:Nat.ble 1 (len [eL tP (gL (tLs tP) s k)])=true:=rfl;have ck2:Y1 [CK.sl 4] (f8 [eL tP (gL (tLs tP) s k)] 0)=true:=rfl;have bset:=Pf5 bs (c:=ob7 (gL (tLs tP) s k) z) (by omega) k
  have hT:=ve8 ⟨nraw,graw,true,z.x,z.y,z.z,s.length,λj=>d8 (bL (tLs tP) (s.set k (ob7 (gL (tLs tP) s k) z))) j,1+s.length,λj=>d8 (app [[b8.tree 4 nraw graw]] (bL (tLs tP) s)) j,m,λj=>d8 (List.replicate m [.v (.slice none 0 0)]) j⟩ own _ s (by omega) bs rfl hraw br (by have:=Hf0 (n:=s.length) (by rw[List.length_set]) bset;simpa only[Qma] using this) (by simpa only[Qma] using t2) (by simpa only[Qma] using t3)
  simp only[hd,hz,Int.toNat_natCast,d9 hkl,hrow,e1,e2,go,sp,Eb9,bl,ck1,ck2,hT,b21,b22,Qmc,f0,p7]
theorem Ve5(x:List Int)(y:List (List Int))(z:V3)(w:List Pln)(v:Int)(h0:0<=v/\v<=255):Ea6 x y z w v=true:=by unfold Ea6;rw[Td6 x y z w v h0.1 h0.2];rfl
theorem Ve6(x:List Int)(y:List (List Int))(z:V3)(w:List Pln)(v:Int)(h0:0<=v/\v<=255):Ea7 x y z w v=true:=by unfold Ea7;rw[Td6 x y z w v h0.1 h0.2];rfl
end Go.Ev.Ce
namespace Go.Ev
open Go Go.ChangeShapes Go.RowKit
section
variable{D:Type}{enc:TypeId×Value->D}{P:Program}{w:World}{spare:Nat->Bool}{held:Bool}
theorem Pf6 {t e u : TypeId} {k : IntKind} {d : Nat} (ht : P.underlying t = some (.slice e)) (he : P.underlying e = some (.slice u)) (hf : ha4 P d u = some (Ja9 k 1)) (hes : P.cellsOf u = 1) (hce : P.cellsOf e = 1) {fuel : Nat} {cs : List Value} {x : DataW D × List MemPlace} (hx : DataW.trod enc P w 0 spare held fuel t cs = some x) :
  ∃(v:Value) (n:Nat) (m:Nat->Nat) (g:Nat->Nat->Int),cs=[v]/\ga7 (Jc0 w) w (.tree 1 n λj=>[.tree 1 (m j) λq=>[.v (.int k (g j q))]]) v:=by
 rcases ue9 ht hx with rfl|⟨a,n,cap,fuel',rfl,hn,hc,hel⟩
 ·exact⟨_,0,λ_=>0,λ_ _=>0,rfl,.nil _ _⟩
 ·rw[hce] at hel;have hcell:∀j,j<n->∃(m:Nat) (g:Nat->Int) (v:Value),w.cell? (a.add (j*1))=some v/\ga7 (Jc0 w) w (.tree 1 m λq=>[.v (.int k (g q))]) v:=λj hj=>by
   obtain⟨row,y,h1,h2⟩:=hel j hj;obtain⟨v',m,g,e1,_,e3⟩:=Dc7 he hf hes (by omega) h2
   subst e1;refine⟨m,λq=>g q 0,v',?_,?_⟩
   ·unfold World.cells? at h1
    split at h1
    ·obtain⟨l1,l2⟩:=ac0 h1;obtain⟨i,hi,hi2⟩:=l2 0 v' rfl
     have:i=0:=by
      have:=List.getElem?_eq_some_iff.1 hi
      obtain⟨h3,h4⟩:=this;simpa using h4.symm
     subst this;have e:(a.add (j*1)).add 0=a.add (j*1):=by
      unfold Addr.add;cases (a.spot)<;>simp
     rw[<- e];exact hi2
    ·cases h1
   ·exact e3.get λq _=>rfl
  have hg:∀j,∃p:Nat×(Nat->Int),j<n->∃v:Value,w.cell? (a.add (j*1))=some v/\ga7 (Jc0 w) w (.tree 1 p.1 λq=>[.v (.int k (p.2 q))]) v:=λj=>by
   by_cases hj:j<n
   ·obtain⟨m,g,v,h1,h2⟩:=hcell j hj;exact⟨(m,g),λ_=>⟨v,h1,h2⟩⟩
   ·exact⟨(0,λ_=>0),λh=>absurd h hj⟩
  obtain⟨p,hp⟩:=Qme hg;have hv:∀j,∃v:Value,j<n->w.cell? (a.add (j*1))=some v/\ga7 (Jc0 w) w (.tree 1 (p j).1 λq=>[.v (.int k ((p j).2 q))]) v:=λj=>by
   by_cases hj:j<n
   ·obtain⟨v,h⟩:=hp j hj;exact⟨v,λ_=>h⟩
   ·exact⟨.bool true,λh=>absurd h hj⟩
  obtain⟨v,hv⟩:=Qme hv;have hspot:0<n->a.spot=none:=λhn=>by
   have:=(hv 0 hn).1
   simpa [Addr.add] using World.cell?_spot this
  have hw:∀j c,j<n->c<1->w.cell? ⟨a.block,a.off+(j*1+c),none⟩=some (v j):=λj c hj hc=>by
   have:=(hv j hj).1
   rw[aa0 (hspot (by omega))] at this
   have:c=0:=by omega
   subst this;simpa using (hv j hj).1 |> λh=>by rw[aa0 (hspot (by omega))] at h;simpa using h
  refine⟨_,n,λj=>(p j).1,λj q=>(p j).2 q,rfl,.tree 1 n _ a cap (λj _=>v j) hspot hn (λi hi=>rfl) (λi c hi hc=>?_) hw λi c hi hc=>?_⟩
  ·unfold Jc0;rw[hw i c hi hc];rfl
  ·have:c=0:=by simpa using hc
   subst this;exact (hv i hi).2
theorem Bf5 {ρ : Rho} {H : List b9} {t e u : TypeId} {k : IntKind} {d : Nat} {v : Value} {dd : DataW D} {pp : List MemPlace} {bs : Nat} {r : Reach} (ht : P.underlying t = some (.slice e)) (he : P.underlying e = some (.slice u)) (hf : ha4 P d u = some (Ja9 k 1)) (hes : P.cellsOf u = 1) (hce : P.cellsOf e = 1)
  (hok:Value.okWide P w r bs t v) (h:DataW.Trod enc P w 0 spare held t v dd pp):∃(n:Nat) (m:Nat->Nat) (g:Nat->Nat->Int),la1 ρ H (Jc0 w) w (.tree 1 n λj=>[.tree 1 (m j) λq=>[.v (.int k (g j q))]]) v:=by
 obtain⟨fuel,hx⟩:=h;obtain⟨v',n,m,g,h1,h3⟩:=Pf6 ht he hf hes hce hx;have hv:v.cells=#[v]:=by
  unfold Value.okWide at hok;rw[ht] at hok;cases v with
  |agg cs=>exfalso;simp[Cell.okWide,Cell.ok,ht] at hok
  |_=>rfl
 rw[hv] at h1
 have:v=v':=by simpa using h1
 subst this;exact⟨n,m,g,.cell (.mem h3)⟩
end
end Go.Ev
namespace Go.Ev.Ce
open Go Go.Ev Go.Ev.L Go.ChangeShapes Go.RowKit
theorem Bf6(n:Nat)(m:Nat->Nat)(g:Nat->Nat->Int):∃l,Rdg (G4 (tLs tI)) (.tree 1 n λj=>[.tree 1 (m j) λq=>[.v (.int .i64 (g j q))]]) l:=by
 refine⟨lsL (tLs tI) n λj=>[.tree 1 (m j) λq=>[.v (.int .i64 (g j q))]],rfl,?_⟩
 show okL (tLs tI) n _=true;unfold okL;rw[List.all_eq_true];intro j _;show Bool.and (Nat.beq 1 1) (okL tI (m j) λq=>[.v (.int .i64 (g j q))])=true
 have h:okL tI (m j) (λq=>[.v (.int .i64 (g j q))])=true:=eb8 tI (f:=λq=>g j q) λ_ _=>rfl
 rw[h];rfl
theorem of3 {P : Program} {w : World} {ρ : Rho} {H : List b9} {F : Fz} {t : TypeId} {v : Value} {bs : Nat} {r : Reach} (ht : P.underlying t = some (.int .u8))
  (hok:Value.okWide P w r bs t v):∃n:Int,(0<=n/\n<=255)/\la1 ρ H F w (.v (.int .u8 n)) v:=by
 unfold Value.okWide at hok;rw[ht] at hok;cases v with
 |int k' n =>
  simp only[Cell.okWide,ht,Cell.ok] at hok;obtain⟨rfl,h⟩:=hok;refine⟨n,?_,.cell (.v _)⟩;simp only[IntKind.has,IntKind.min,IntKind.max,IntKind.bits,IntKind.signed] at h
  simp at h
  omega
 |_=>simp[Cell.okWide,ht,Cell.ok] at hok
theorem of4(n:Int)(h:0<=n/\n<=255):∃a,Rdg cU (.v (.int .u8 n)) a/\(0<=a/\a<=255):=⟨n,⟨rfl,rfl⟩,h⟩
end Go.Ev.Ce
