/- Own work. -/
import Derived.Test.YtigadclidanicaaGreatEvOdM
import Derived.ChangeArms
set_option linter.all false
noncomputable section
def Qma:=@List.length_append
def Qmb:=@Nat.zero_add
def Qmc:=@List.getElem?_eq_getElem
def Qmd:=@List.length_set
def Qme:=@List.length_take
def Qmf:=@Bool.true_and
def Qmg:=@List.getD_eq_getElem?_getD
def Qmh:=@List.getElem?_append_right
def Qmi:=@List.getElem?_append_left
def Qmj:=@Bool.and_self
def Qmk:=@Nat.beq_refl
def Qml:=@Int.emod_lt_of_pos
def Qmm:=@Int.emod_nonneg
def Qmn:=@List.length_replicate
def Qmo:=@Array.getElem?_toList
def Qmp:=@Nat.ble_eq
def Qmq:=@Bool.not_true
def Qmr:=@List.mem_singleton
namespace Go.Ev.Ce
open Go Go.Ev Go.Ev.L Go.Proofs
structure rb8(E:List (List d7))(l:LPq):Prop where
 n:len E=l.length
 r:∀k,k<l.length->∃r,g8 E k=[r]/\tLq.rd [r]=gL tLq l k/\tLq.ok [r]=true
theorem rb8.cr{E:List (List d7)}{l:LPq}(h:rb8 E l){n:Nat}(hn:n<=l.length):CR tLq (.tree 1 n (λk=>g8 E (0+k))) (l.take n):=by
 refine .tree tLq ?_ ?_
 ·unfold okL;rw[List.all_eq_true];intro k hk;have hk:k<n:=by simpa using hk
  obtain⟨r,h1,_,h3⟩:=h.r k (by omega)
  show tLq.ok (g8 E (0+k))=true;rw[Qmb,h1,h3]
 ·unfold lsL;refine List.ext_getElem (by simp;omega) λk h1 h2=>?_
  have hk:k<n:=by simpa using h1
  obtain⟨r,g1,g2,_⟩:=h.r k (by omega)
  simp only[List.getElem_map,List.getElem_range,Qmb,g1,g2,List.getElem_take];exact fb0 tLq (by omega)
theorem rb8.all{E:List (List d7)}{l:LPq}(h:rb8 E l){n:Nat}(hn:n=l.length):CR tLq (.tree 1 n (λk=>g8 E (0+k))) l:=by
 have:=h.cr (n:=n) (by omega)
 rw[hn,List.take_length] at this;rw[hn];exact this
theorem rb8.cp(l:LPq):rb8 (cpR l) l:=⟨Cd4 l,λk hk=>⟨_,fd2 hk,(He8 _).1,(He8 _).2⟩⟩
theorem Ue6{E:List (List d7)}{j k:Nat}(r:List d7)(hj:j<len E):g8 (setAt E j r) k=if k=j then r else g8 E k:=by
 unfold g8;rw[E5,D7,D7,List.getElem?_set];rw[p9] at hj;by_cases e:j=k
 ·subst e;simp[hj]
 ·rw[if_neg e,if_neg (λh=>e h.symm)]
theorem rb8.put{E:List (List d7)}{l:LPq}(h:rb8 E l){j:Nat}(hj:j<l.length)(c:PLq):rb8 (setAt E j [eL tP c]) (l.set j c):=by
 refine⟨by rw[E5,p9,Qmd,<- p9,h.n,Qmd],λk hk=>?_⟩
 rw[Qmd] at hk;rw[Ue6 _ (by rw[h.n];exact hj),Ue4 tLq l c hj]
 by_cases e:k=j
 ·rw[if_pos e,if_pos e];exact⟨_,rfl,tLq.h1 c,tLq.h2 c⟩
 ·rw[if_neg e,if_neg e];exact h.r k hk
theorem Ff4{nm:ByteArray}{cl:LPq}{wt:List Int}(h1:cl.length<=1000)(h2:wt.length<=1000)(h3:∀q∈cl,q.length<=1000):Jok ⟨nm,cl,wt⟩:=⟨by show cl.length<=_;omega,by show wt.length<=_;omega,λq hq=>by have:=h3 q hq;omega⟩
theorem Fc4{nm:ByteArray}{c w:d7}{cl:LPq}{wt:List Int}(h2:CR tLq c cl)(h3:CR tI w wt)(k1:cl.length<=1000)(k2:wt.length<=1000)(k3:∀q∈cl,q.length<=1000):Rd (one r1J) (some (.agg [.v (.string nm),c,w],[])) Jok :=
 ⟨_,_,rfl,Ue5 h2 h3,Ff4 k1 k2 k3⟩
theorem Sf6{α:Type}(t:Ty α)(l:List α){n:Nat}(hn:n<=l.length):CR t (.tree t.es n (λk=>g8 (bL t l) (0+k))) (l.take n):=by
 refine .tree t (Yb6 t (f:=λk=>gL t l k) λk hk=>by rw[Qmb,U1 t (by omega)]) ?_
 refine jc6 t (by rw[Qme];omega) λk hk=>?_
 rw[Qmb,U1 t (by omega)]
 simp only[gL,Qmg];rw[List.getElem?_take,if_pos hk]
structure ROd(j:Nat)(s:Y8)(O:LPq)(V:List Int):Prop where
 ph:s.ph=1
 ix:s.is7=(O.length:Int)
 n2:s.Da4=V.length
 e3:s.eh3=cpR O
 n1:s.zb3=O.length
 e4:s.eh4=bL tI V
 l:O.length=j
 v:V.length=j
 c:∀q∈O,q.length<=1000
theorem of0{a b' c:Int}{nm nm2:ByteArray}{O:LPq}{V:List Int}(h1:O.length<=16)(h2:V.length=O.length)(h3:∀q∈O,q.length<=1000) :
  ∃s O' V',lp (Da2 ⟨a,b',c,nm,nm2⟩) ⟨1,(O.length:Int),V.length,cpR O,O.length,bL tI V⟩=(2,s)/\s.zb3=O'.length/\s.eh3=cpR O'/\s.Da4=V'.length/\s.eh4=bL tI V'/\O'.length<=17/\V'.length<=17/\∀q∈O',q.length<=1000:=by
 have m1:=ud0 c (y:=2) (by decide) (by decide)
 have m2:=Oc9 c (y:=2) (by decide) (by decide)
 have hm:0<=c % 2/\c % 2<2:=⟨Qmm _ (by decide),Qml _ (by decide)⟩
 have hw:W (16+c % 2)=16+c % 2:=La6 (by omega) (by omega)
 obtain⟨n,hn⟩:∃n:Nat,16+c % 2=(n:Int):=⟨(16+c % 2).toNat,by omega⟩
 suffices key:∃t s,lp (Da2 ⟨a,b',c,nm,nm2⟩) ⟨1,(O.length:Int),V.length,cpR O,O.length,bL tI V⟩=(t,s)/\t=2/\∃O' V',ROd n s O' V' by
  obtain⟨t,s,k1,rfl,O',V',k⟩:=key;exact⟨s,O',V',k1,k.n1,k.e3,k.n2,k.e4,by rw[k.l];omega,by rw[k.v];omega,k.c⟩
 refine Fa0 (step:=Da2 ⟨a,b',c,nm,nm2⟩) (mk:=λ_ (s:Y8)=>s) n (λj s=>j<=n/\∃O' V',ROd j s O' V') (λt s=>t=2/\∃O' V',ROd n s O' V') (by omega)
  (λj s hj hi=>?_) (λj s hj hi=>?_) O.length _ ⟨by omega,O,V,rfl,rfl,rfl,rfl,rfl,rfl,rfl,h2,h3⟩
 ·obtain⟨_,O',V',hi⟩:=hi;obtain⟨a1,a2,a3,a4,a5,a6,a7,a8,a9⟩:=hi;obtain⟨ph,is,n2,e3,n1,e4⟩:=s
  simp only at a1 a2 a3 a4 a5 a6
  subst a1 a2 a3 a4 a5 a6;have hw1:W ((O'.length:Int)+1)=((O'.length+1:Nat):Int):=u7 (n:=n) (by omega) (by omega)
  have hw2:W ((O'.length:Int)+1)=(O'.length:Int)+1:=by rw[hw1];omega
  have hw4:W (0-(O'.length:Int))=-(O'.length:Int):=by rw[La6 (by omega) (by omega)];omega
  have hw5:W (0-0)=-0:=rfl;have hw6:W (0-10)=-10:=rfl;have r1:=Dc4 O' (by omega)
  have r2:(Nat.beq V'.length (len (bL tI V'))&&Nat.ble ((V'.length+1)*8) room)=true:=by
   rw[M2,Qmk,Qmf,Qmp];unfold room;omega
  have r3:app (bL tI V') [[i (W (1+Int.tmod (O'.length:Int) 3))]]=bL tI (V'++[W (1+Int.tmod (O'.length:Int) 3)]):=Ka2 tI V' [W (1+Int.tmod (O'.length:Int) 3)];have hst:Da2 ⟨a,b',c,nm,nm2⟩ ⟨1,(O'.length:Int),V'.length,cpR O',O'.length,bL tI V'⟩=.next ⟨1,((O'.length+1:Nat):Int),V'.length+1,cpR (O'++[bx (O'.length:Int) 10 0 ((O'.length:Int)+1) 11 1]),O'.length+1,bL tI (V'++[W (1+Int.tmod (O'.length:Int) 3)])⟩:=by
   show Ea7 Stp.next Stp.exit Stp.fail _ _=_;simp only[Ea7,m1,m2,hw,hw2,gd7,hw4,hw5,hw6,Qd8,Kb4,r1,r2,r3,g9];rw[btD (by omega)]
   rfl
  show Nx (Da2 ⟨a,b',c,nm,nm2⟩ ⟨1,(O'.length:Int),V'.length,cpR O',O'.length,bL tI V'⟩) _ _;rw[hst];refine .nx ⟨_,rfl,by omega,O'++[bx (O'.length:Int) 10 0 ((O'.length:Int)+1) 11 1],V'++[W (1+Int.tmod (O'.length:Int) 3)],rfl,by rw[Qma];rfl,by rw[Qma];rfl,rfl,by rw[Qma];rfl,rfl,by rw[Qma,a7];rfl,by rw[Qma,a8];rfl,λq hq=>?_⟩
  rcases List.mem_append.1 hq with hq|hq
  ·exact a9 q hq
  ·rw[Qmr.1 hq,Od4];decide
 ·obtain⟨hjn,O',V',hi⟩:=hi;have hje:j=n:=by omega
  subst hje;refine⟨2,?_,rfl,O',V',hi⟩;obtain⟨a1,a2,a3,a4,a5,a6,a7,a8,a9⟩:=hi;obtain⟨ph,is,n2,e3,n1,e4⟩:=s
  simp only at a1 a2 a3 a4 a5 a6
  subst a1 a2 a3 a4 a5 a6;show Ea7 Stp.next Stp.exit Stp.fail _ _=_;simp only[Ea7,m1,m2,hw,g9];rw[bfD (by omega)]
theorem ef0{x:Prt}(m:Mp x)(y:V3):Rd (one r1J) (ic1 x y) Jok:=by
 have hn1:=m.c.n1;have hn2:=m.c.n2;have hcl:=m.jok;have hw:=m.w;have hk6:∀q∈x.cl,q.length<=1000:=λq hq=>by have:=(m.c.k q hq).2;omega
 have cu:=Rf9 hcl.cl hcl.pl;rw[if_neg (by intro e;rw[e] at hn1;simp at hn1)] at cu
 have M7:=ud0 y.x (y:=7) (by decide) (by decide);have G7:=Oc9 y.x (y:=7) (by decide) (by decide)
 have M5:=ud0 y.z (y:=5) (by decide) (by decide);have G5:=Oc9 y.z (y:=5) (by decide) (by decide)
 have hnI:(0:Int)<(x.cl.length:Int):=by omega
 have Mn:=ud0 y.y (y:=(x.cl.length:Int)) hnI (by omega);have Gn:=Oc9 y.y (y:=(x.cl.length:Int)) hnI (by omega)
 have hmx:(if (x.cl.length:Int)>1 then (x.cl.length:Int) else 1)=(x.cl.length:Int):=if_pos (by omega)
 obtain⟨k,hk⟩:∃k:Nat,y.y % (x.cl.length:Int)=(k:Int):=⟨(y.y % (x.cl.length:Int)).toNat,by have:=Qmm y.y (show (x.cl.length:Int)≠0 by omega);omega⟩
 have hkl:k<x.cl.length:=by have:=Qml y.y hnI;omega
 have hin:inB (k:Int) x.cl.length=true:=i9 hkl;obtain⟨q,hq⟩:∃q:Nat,y.z % 5=(q:Int):=⟨(y.z % 5).toNat,by have:=Qmm y.z (show (5:Int)≠0 by decide);omega⟩
 have hq5:q<5:=by have:=Qml y.z (show (0:Int)<5 by decide);omega
 have hrow5:∃v:Int,g8 [[i y.z],[i 0],[i 4],[i 1],[i 3]] q=[i v]:=by
  match q,hq5 with
  |0,_=>exact⟨_,rfl⟩
  |1,_=>exact⟨_,rfl⟩
  |2,_=>exact⟨_,rfl⟩
  |3,_=>exact⟨_,rfl⟩
  |4,_=>exact⟨_,rfl⟩
 obtain⟨v,hv⟩:=hrow5;have g5:((Nat.ble 1 (len [i v]))&&(ra7 [CK.int .i64] [i v]))=true:=rfl;have hrow:g8 (cpR x.cl) k=[cpA (gL tLq x.cl k)]:=fd2 hkl;have hd0:l4 [cpA (gL tLq x.cl k)] 0=[cpA (gL tLq x.cl k)]:=rfl;have hdA0:hdA [cpA (gL tLq x.cl k)]=cpA (gL tLq x.cl k):=rfl;have hck:ra7 [CK.sl 4] [cpA (gL tLq x.cl k)]=true:=rfl;have hbl:Nat.blt k (len (cpR x.cl))=true:=by rw[Cd4,Nat.blt_eq];exact hkl
 have hle1:Nat.ble 1 (len [cpA (gL tLq x.cl k)])=true:=rfl;have hroww:g8 (bL tI x.wt) k=[i (gL tI x.wt k)]:=U1 tI (by omega)
 have hblw:Nat.blt k (len (bL tI x.wt))=true:=by rw[M2,Nat.blt_eq];omega
 have hle2:Nat.ble 1 (len [i (gL tI x.wt k)])=true:=rfl;have r8:∀n:Nat,n<=100->Nat.ble (n*8) room=true:=λn hn=>by rw[Qmp];unfold room;omega
 have r32:∀n:Nat,n<=100->Nat.ble (n*32) room=true:=λn hn=>by rw[Qmp];unfold room;omega
 have l6:=(m.c.k _ (X7 tLq hkl)).2;have od1:=og9 (gL tLq x.cl k) ⟨y.z,y.y,y.x⟩ (by omega)
 have od2:=og8 (gL tLq x.cl k) ⟨y.z,y.y,y.x⟩ (by omega)
 have lsC:lsL tP (toN (cpA (gL tLq x.cl k))) (toG (cpA (gL tLq x.cl k)))=gL tLq x.cl k:=(He8 _).1;have okC:okL tP (toN (cpA (gL tLq x.cl k))) (toG (cpA (gL tLq x.cl k)))=true:=(Ge9 tP (gL tLq x.cl k) rfl).2;have sp:∀a c:d7,L0 [a] 0 [c]=[c]:=λa c=>rfl
 have setw:∀n:Int,setAt (bL tI x.wt) k [i n]=bL tI (x.wt.set k n):=λn=>yc3 tI x.wt k n
 have appw:∀n:Int,app (bL tI x.wt) [[i n]]=bL tI (x.wt++[n]):=λn=>Ka2 tI x.wt [n]
 have tv:toI (hdA [i v])=v:=rfl;have base:=λ(cl':d7) (cl:LPq) (h:CR tLq cl' cl)=>h
 have C0:CR tLq (.tree 1 x.cl.length (λk=>g8 (cpR x.cl) (0+k))) x.cl:=.cp x.cl rfl
 have W0:CR tI (.tree 1 x.wt.length (λk=>g8 (bL tI x.wt) (0+k))) x.wt:=.bL tI x.wt rfl
 have tail:Rd (one r1J) (some (.agg [.v (.string x.nm),.tree 1 x.cl.length (λk=>g8 (cpR x.cl) (0+k)),.tree 1 x.wt.length (λk=>g8 (bL tI x.wt) (0+k))],[])) Jok:=Fc4 C0 W0 (by omega) (by omega) hk6
 have q21:Nat.beq 2 1=false:=rfl;have q22:Nat.beq 2 2=true:=rfl;have hdv:∀n:Nat,n<=100->W (Int.tdiv (n:Int) 2)=((n / 2:Nat):Int):=λn hn=>by
  rw[show Int.tdiv (n:Int) 2=((n / 2:Nat):Int) by rw[Int.tdiv_eq_ediv_of_nonneg (by omega)];omega,La6 (by omega) (by omega)]
 unfold ic1;simp only[j8,w7,cu,q21,q22,g9,w6,Mb7,M2,fd7,Qmb,Qmk];have hkb:Nat.blt k x.cl.length=true:=by rw[Nat.blt_eq];exact hkl
 simp only[hkb,M2,g9,w6,hw,hmx,M7,G7,M5,G5,Mn,Gn,hk,hq,Int.toNat_natCast,hv,hin,hrow,hd0,hdA0,hck,hbl,hle1,hroww,hblw,hle2,sp,setw,appw,tv,g5,lsC,okC,od2,df7,i9 hq5,
  Qmj,Qmf,r8 _ (show x.cl.length<=100 by omega),r8 _ (show x.cl.length+1<=100 by omega),r32 _ (show (gL tLq x.cl k).length<=100 by omega),Nat.sub_zero,decide_eq_true (show (x.cl.length:Int)>0 by omega),hdv _ (show x.cl.length<=100 by omega),i9 (show x.cl.length / 2<x.cl.length+1 by omega)]
 rw[hw] at W0 tail;simp only[Qmb] at C0 W0 tail;refine Rd.sl (λ_=>?_) (λ_=>?_)
 ·refine Fc4 C0 (wt:=x.wt.set k v) ?_ (by omega) (by rw[Qmd];omega) hk6
  have:=CR.bL tI (x.wt.set k v) (n:=x.cl.length) (by rw[Qmd];omega)
  simp only[Qmb] at this;exact this
 refine Rd.sl (λ_=>?_) (λ_=>?_)
 ·refine Fc4 C0 (wt:=x.wt++[1]) ?_ (by omega) (by rw[Qma];simp;omega) hk6
  have:=CR.bL tI (x.wt++[1]) (n:=x.cl.length+1) (by rw[Qma];simp;omega)
  simp only[Qmb] at this;exact this
 refine Rd.sl (λ_=>?_) (λ_=>?_)
 ·have:=((rb8.cp x.cl).put hkl (Ic8 (gL tLq x.cl k) ⟨y.z,y.y,y.x⟩)).all (n:=x.cl.length) (by rw[Qmd])
  simp only[Qmb] at this;refine Fc4 this W0 (by rw[Qmd];omega) (by omega) λc hc=>?_
  rcases List.mem_or_eq_of_mem_set hc with h|rfl
  ·exact hk6 c h
  ·omega
 refine Rd.sl (λ_=>?_) (λ_=>?_)
 ·have c1:=Pd7 (gL tLq x.cl k);simp only[Qmb] at c1;have r1:=Dc4 x.cl (by omega)
  simp only[c1,Kb4,r1,g9];have h1:=CR.cp (x.cl++[gL tLq x.cl k]) (n:=x.cl.length+1) (by rw[Qma];rfl)
  have h2:=CR.bL tI (x.wt++[1]) (n:=x.cl.length+1) (by rw[Qma];simp;omega)
  simp only[Qmb] at h1 h2;refine Fc4 h1 h2 (by rw[Qma];simp;omega) (by rw[Qma];simp;omega) λc hc=>?_
  rcases List.mem_append.1 hc with h|h
  ·exact hk6 c h
  ·rw[Qmr.1 h];omega
 refine Rd.sl (λ_=>?_) (λ_=>?_)
 ·obtain⟨s,O',V',e1,e2,e3,e4,e5,e6,e7,e8⟩:=of0 (a:=y.x) (b':=y.y) (c:=y.z) (nm:=⟨#[]⟩) (nm2:=x.nm) (O:=x.cl) (V:=x.wt) (by omega) hw hk6
  rw[hw] at e1;rw[e1,e2,e3,e4,e5];have h1:=CR.cp O' rfl;have h2:=CR.bL tI V' rfl;simp only[Qmb] at h1 h2;exact Fc4 h1 h2 (by omega) (by omega) e8
 refine Rd.sl (λ_=>?_) (λ_=>?_)
 ·have h1:=(rb8.cp x.cl).cr (n:=x.cl.length / 2) (by omega)
  have h2:=Sf6 tI x.wt (n:=x.cl.length / 2) (by omega)
  simp only[Qmb] at h1 h2;exact Fc4 h1 h2 (by rw[Qme];omega) (by rw[Qme];omega) λc hc=>hk6 c (List.mem_of_mem_take hc)
 refine Rd.sl (λ_=>?_) (λ_=>?_)
 ·exact Fc4 (.nil tLq) (.nil tI) (by simp) (by simp) (by simp)
 ·exact tail
theorem hg3{x:Prt}(m:Mp x)(y:V3):Jok (Jc7 x y):=(ef0 m y).p
theorem hg4{x:Prt}(m:Mp x)(y:V3):Jc8 x y=true:=(ef0 m y).g
set_option maxRecDepth 100000
def Cb9:List (Nat×Sum):=[(9,Fc3),(10,Xb6),(11,fe9),(12,zb1),(13,ud3),(15,Cc9),(16,ee9),(14,Od6)]
theorem vc8:j9 prog G Cb9:=⟨Ad0,Vc9,Ue3,Qb4,re1,ed0,Se6,He1,trivial⟩
structure H5 where
 bs5:Bool
 (ab7 ge2:List Int)
 (Rd5 Rd6 Rd7 Rd8:List (List Int))
 (ef3 ef4 ef5 ef6 Je7 Je8:Int)
 ib3:ByteArray
 p7:LPq
 ge3:List Int
 rc2:ByteArray
 Rd9:LPq
 ge4:List Int
 hd4:ByteArray
 te2:Nat
 ef7:Nat->List d7
structure u5 where
 ph:Nat
 is8:Int
 ba4:Nat
 eh4:List (List d7)
def Ja0(p:H5)(s:u5):St:=⟨.unk::.unk::.ptr 0 0 0 0::.ptr 1 0 0 0::.unk::b p.bs5::.ptr 2 0 0 0::.ptr 3 0 0 0::i s.is8::ra 75 [],[⟨0,12,[[eL tI p.ab7,eL tI p.ge2,eL (tLs tI) p.Rd5,eL (tLs tI) p.Rd6,eL (tLs tI) p.Rd7,eL (tLs tI) p.Rd8,i p.ef3,i p.ef4,i p.ef5,i p.ef6,i p.Je7,i p.Je8]],true,false,0⟩,⟨0,3,[[.v (.string p.ib3),eL tLq p.p7,eL tI p.ge3]],true,false,0⟩,⟨0,3,[[.v (.string p.rc2),eL tLq p.Rd9,eL tI p.ge4]],true,false,0⟩,⟨0,0,[[.v (.string p.hd4),.v (.slice none 0 0),.tree 1 p.te2 p.ef7]],true,false,0⟩]⟩
def Ja1(p:H5)(s:u5):St:=⟨.unk::.unk::.ptr 0 0 0 0::.ptr 1 0 0 0::.unk::b p.bs5::.ptr 2 0 0 0::.ptr 3 0 0 0::i s.is8::ra 75 [],[⟨0,12,[[eL tI p.ab7,eL tI p.ge2,eL (tLs tI) p.Rd5,eL (tLs tI) p.Rd6,eL (tLs tI) p.Rd7,eL (tLs tI) p.Rd8,i p.ef3,i p.ef4,i p.ef5,i p.ef6,i p.Je7,i p.Je8]],true,false,0⟩,⟨0,3,[[.v (.string p.ib3),eL tLq p.p7,eL tI p.ge3]],true,false,0⟩,⟨0,3,[[.v (.string p.rc2),eL tLq p.Rd9,eL tI p.ge4]],true,false,0⟩,⟨0,0,[[.v (.string p.hd4),.sl 4 0 s.ba4 0,.tree 1 p.te2 p.ef7]],true,false,0⟩,⟨35,1,s.eh4,true,false,0⟩]⟩
def pc6(p:H5)(s:u5):St:=(sel (Nat.beq s.ph 1) (Ja1 p s) (Ja0 p s))
def N4{α:Type}(k:u5->α)(e:Nat->α)(z:α)(p:H5)(s:u5):α:=let y2:=(gL tLq p.p7 s.is8.toNat);let y1:=(List.length p.p7);let y0:=(List.length y2);(sl (decide (s.is8<(↑y1:Int))) (sl (decide (s.is8<17)) (sl (inB s.is8 y1) (sl (inB s.is8 y1) (sl (inB (if 6<(↑y0:Int) then 6 else (↑y0:Int)) (y0+1)) (k ⟨1,W (s.is8+1),1,[[(.tree 4 ((if 6<(↑y0:Int) then 6 else (↑y0:Int)).toNat-0) (λk=>(λk=>(tP).row (gL tP y2 k)) (0+k)))]]⟩) z) z) z) (e 1)) (e 2))
def E1{α:Type}(k:u5->α)(e:Nat->α)(z:α)(p:H5)(s:u5):α:=let y2:=(gL tLq p.p7 s.is8.toNat);let y1:=(List.length p.p7);let y0:=(List.length y2);(sl (decide (s.is8<(↑y1:Int))) (sl (decide (s.is8<17)) (sl (inB s.is8 y1) (sl (inB s.is8 y1) (sl (inB (if 6<(↑y0:Int) then 6 else (↑y0:Int)) (y0+1)) (sl (Nat.beq s.ba4 (len s.eh4)&&Nat.ble ((s.ba4+1)*24) room) (k ⟨1,W (s.is8+1),s.ba4+1,(app s.eh4 [[(.tree 4 ((if 6<(↑y0:Int) then 6 else (↑y0:Int)).toNat-0) (λk=>(λk=>(tP).row (gL tP y2 k)) (0+k)))]])⟩) z) z) z) z) (e 3)) (e 4))
def ha5(p:H5)(s:u5):Stp u5:=(sel (Nat.beq s.ph 1) (E1 .next .exit .fail p s) (N4 .next .exit .fail p s))
def Ta1:Lo H5 u5:=⟨En Cb9,0,pf3,[1,1,1,1,0,1,4,4],[2,3,5,6,7,8],.p,[⟨sUq::sUq::sPq 0::sPq 1::sUq::sBq::sPq 2::sPq 3::sIq::ru2 75 [],[⟨0,12,true,some [[.c 1 (nL tI),.c 1 (nL tI),.c 1 (nL (tLs tI)),.c 1 (nL (tLs tI)),.c 1 (nL (tLs tI)),.c 1 (nL (tLs tI)),.o (.int .i64),.o (.int .i64),.o (.int .i64),.o (.int .i64),.o (.int .i64),.o (.int .i64)]]⟩,⟨0,3,true,some [[.o .val,.c 1 (nL tLq),.c 1 (nL tI)]]⟩,⟨0,3,true,some [[.o .val,.c 1 (nL tLq),.c 1 (nL tI)]]⟩,⟨0,0,true,some [[.o .val,.o .nil,.o (.tree 1)]]⟩],λa H=>(⟨aBq a 5,hLq tI H 0 0 0,hLq tI H 0 0 1,rL (tLs tI) (slT (rwT (elT H 0) 0) 2),rL (tLs tI) (slT (rwT (elT H 0) 0) 3),rL (tLs tI) (slT (rwT (elT H 0) 0) 4),rL (tLs tI) (slT (rwT (elT H 0) 0) 5),hIq H 0 0 6,hIq H 0 0 7,hIq H 0 0 8,hIq H 0 0 9,hIq H 0 0 10,hIq H 0 0 11,ca2 (slT (rwT (elT H 1) 0) 0),hLq tLq H 1 0 1,hLq tI H 1 0 2,ca2 (slT (rwT (elT H 2) 0) 0),hLq tLq H 2 0 1,hLq tI H 2 0 2,ca2 (slT (rwT (elT H 3) 0) 0),hNq H 3 0 2,hGq H 3 0 2⟩,⟨0,aIq a 8,0,[]⟩)⟩,⟨sUq::sUq::sPq 0::sPq 1::sUq::sBq::sPq 2::sPq 3::sIq::ru2 75 [],[⟨0,12,true,some [[.c 1 (nL tI),.c 1 (nL tI),.c 1 (nL (tLs tI)),.c 1 (nL (tLs tI)),.c 1 (nL (tLs tI)),.c 1 (nL (tLs tI)),.o (.int .i64),.o (.int .i64),.o (.int .i64),.o (.int .i64),.o (.int .i64),.o (.int .i64)]]⟩,⟨0,3,true,some [[.o .val,.c 1 (nL tLq),.c 1 (nL tI)]]⟩,⟨0,3,true,some [[.o .val,.c 1 (nL tLq),.c 1 (nL tI)]]⟩,⟨0,0,true,some [[.o .val,.o (.sl 4 0 (some 0) none),.o (.tree 1)]]⟩,⟨35,1,true,none⟩],λa H=>(⟨aBq a 5,hLq tI H 0 0 0,hLq tI H 0 0 1,rL (tLs tI) (slT (rwT (elT H 0) 0) 2),rL (tLs tI) (slT (rwT (elT H 0) 0) 3),rL (tLs tI) (slT (rwT (elT H 0) 0) 4),rL (tLs tI) (slT (rwT (elT H 0) 0) 5),hIq H 0 0 6,hIq H 0 0 7,hIq H 0 0 8,hIq H 0 0 9,hIq H 0 0 10,hIq H 0 0 11,ca2 (slT (rwT (elT H 1) 0) 0),hLq tLq H 1 0 1,hLq tI H 1 0 2,ca2 (slT (rwT (elT H 2) 0) 0),hLq tLq H 2 0 1,hLq tI H 2 0 2,ca2 (slT (rwT (elT H 3) 0) 0),hNq H 3 0 2,hGq H 3 0 2⟩,⟨1,aIq a 8,slN (slT (rwT (elT H 3) 0) 1),elT H 4⟩)⟩],ha5,[(some 0,λp s=>upq (Ja0 p s) [(22,i s.is8),(23,.ptr 1 0 1 0),(24,eL tLq p.p7),(25,i (↑(List.length p.p7):Int)),(26,b (decide (s.is8<(↑(List.length p.p7):Int)))),(27,b true),(28,i s.is8),(29,b (decide (s.is8<17))),(30,b (decide (s.is8<17)))]),(some 0,λp s=>upq (Ja0 p s) [(22,i s.is8),(23,.ptr 1 0 1 0),(24,eL tLq p.p7),(25,i (↑(List.length p.p7):Int)),(26,b (decide (s.is8<(↑(List.length p.p7):Int)))),(27,b false),(28,u),(29,u),(30,b false)]),(some 0,λp s=>upq (Ja1 p s) [(22,i s.is8),(23,.ptr 1 0 1 0),(24,eL tLq p.p7),(25,i (↑(List.length p.p7):Int)),(26,b (decide (s.is8<(↑(List.length p.p7):Int)))),(27,b true),(28,i s.is8),(29,b (decide (s.is8<17))),(30,b (decide (s.is8<17)))]),(some 0,λp s=>upq (Ja1 p s) [(22,i s.is8),(23,.ptr 1 0 1 0),(24,eL tLq p.p7),(25,i (↑(List.length p.p7):Int)),(26,b (decide (s.is8<(↑(List.length p.p7):Int)))),(27,b false),(28,u),(29,u),(30,b false)])],pc6⟩
theorem pc7:Ta1.OkM:=Lo.okM [] (by kernel_rfl) .nil rfl (.cons (λa H=>by kernel_rfl) (.cons (λa H=>by kernel_rfl) .nil)) λp s=>(.sel (Nat.beq s.ph 1) (.of @E1 (λF _ _ _ _ _=>by unfold E1;(repeat' apply k8 (f:=F))<;>rfl) (by kernel_rfl)) (.of @N4 (λF _ _ _ _ _=>by unfold N4;(repeat' apply k8 (f:=F))<;>rfl) (by kernel_rfl)))
def ta0(x:Cse)(y:Prt):ROq:=let y15:=(⟨x.q0,x.q1,x.q2⟩:V3);let y9:=(↑(List.length y.wt):Int);let t1:=rb6;let y4:=(⟨rt tI x.p0,rt tI x.p1,rt (tLs tI) x.c0,rt (tLs tI) x.c1,rt (tLs tI) x.t0,rt (tLs tI) x.t1,x.q0,x.q1,x.q2,x.q3,x.q4,x.q5⟩:Cse);let t2:=(rb4 y4);let a0:=((if 18<y9 then 18 else y9).toNat-0);let a1:=(λk=>(λk=>(tI).row (gL tI y.wt k)) (0+k));let y2:=(⟨⟨#[]⟩,[],lsL tI a0 a1⟩:Prt);let t3:=(lp (ha5 (⟨t1,rt tI x.p0,rt tI x.p1,rt (tLs tI) x.c0,rt (tLs tI) x.c1,rt (tLs tI) x.t0,rt (tLs tI) x.t1,x.q0,x.q1,x.q2,x.q3,x.q4,x.q5,y.nm,rt tLq y.cl,rt tI y.wt,t2.nm,rt tLq t2.cl,rt tI t2.wt,⟨#[]⟩,a0,a1⟩:H5)) (⟨0,0,0,[]⟩:u5));let t15:=(Z5 y2);let t16:=(Xa8 y2);let t17:=(Ja8 y2);let y10:=(⟨rt tB t17.su,rt tB t17.to,rt tLq t17.cu⟩:Pce);let t18:=(Lb3 y2);let y11:=(⟨rt tB t18.su,rt tB t18.to,rt tLq t18.cu⟩:Pce);let t19:=(jb2 y10 y11);let a2:=((okE tLq (rt tLq t2.cl))&&((okE tI (rt tI t2.wt))&&true));let a3:=(rt tLq (rt tLq t2.cl));let y0:=(⟨t2.nm,a3,rt tI (rt tI t2.wt)⟩:Prt);let y14:=(V0 y0);let t4:=(Jc7 y0 y15);let y1:=(⟨t4.nm,rt tLq t4.cl,rt tI t4.wt⟩:Prt);let t5:=(Z5 y0);let t6:=(Xa8 y0);let t7:=(Ja8 y0);let y7:=(⟨rt tB t7.su,rt tB t7.to,rt tLq t7.cu⟩:Pce);let t8:=(Lb3 y0);let y8:=(⟨rt tB t8.su,rt tB t8.to,rt tLq t8.cu⟩:Pce);let t9:=(jb2 y7 y8);let t10:=(Z5 y1);let t11:=(Xa8 y1);let t12:=(Ja8 y1);let y5:=(⟨rt tB t12.su,rt tB t12.to,rt tLq t12.cu⟩:Pce);let t13:=(Lb3 y1);let y6:=(⟨rt tB t13.su,rt tB t13.to,rt tLq t13.cu⟩:Pce);let t14:=(jb2 y5 y6);let a4:=((okE tLq t4.cl)&&((okE tI t4.wt)&&true));let a5:=(lsL tLq t3.2.ba4 (λk=>g8 t3.2.eh4 (0+k)));let y3:=(⟨⟨#[]⟩,a5,lsL tI a0 a1⟩:Prt);let t20:=(Z5 y3);let t21:=(Xa8 y3);let t22:=(Ja8 y3);let y12:=(⟨rt tB t22.su,rt tB t22.to,rt tLq t22.cu⟩:Pce);let t23:=(Lb3 y3);let y13:=(⟨rt tB t23.su,rt tB t23.to,rt tLq t23.cu⟩:Pce);let t24:=(jb2 y12 y13);let a6:=((okL tLq t3.2.ba4 (λk=>g8 t3.2.eh4 (0+k)))&&((okL tI a0 a1)&&true));let a7:=(true&&((okL tI a0 a1)&&true));let a8:=((okE tB t12.su)&&((okE tB t12.to)&&((okE tLq t12.cu)&&true)));let a9:=((okE tB t13.su)&&((okE tB t13.to)&&((okE tLq t13.cu)&&true)));let a10:=((okE tB t7.su)&&((okE tB t7.to)&&((okE tLq t7.cu)&&true)));let a11:=((okE tB t8.su)&&((okE tB t8.to)&&((okE tLq t8.cu)&&true)));let w0:ROq:=(sl a2 (sl (Jc8 y0 y15) (sl a2 (sl y14 (sl a2 (sl (Ca4 y0) (sl (t5 != t6) (some (b false,[])) (sl a2 (sl (pa3 y0) (sl a2 (sl (kb7 y0) (sl a10 (sl a11 (sl (Ma0 y7 y8) (sl (!t9) (some (b false,[])) (sl a4 (sl (V0 y1) (sl a4 (sl (Ca4 y1) (sl (t10 != t11) (some (b false,[])) (sl a4 (sl (pa3 y1) (sl a4 (sl (kb7 y1) (sl a8 (sl a9 (sl (Ma0 y5 y6) (sl (!t14) (some (b false,[])) (sl a7 (sl (V0 y2) (sl a7 (sl (Ca4 y2) (sl (t15 != t16) (some (b false,[])) (sl a7 (sl (pa3 y2) (sl a7 (sl (kb7 y2) (sl ((okE tB t17.su)&&((okE tB t17.to)&&((okE tLq t17.cu)&&true))) (sl ((okE tB t18.su)&&((okE tB t18.to)&&((okE tLq t18.cu)&&true))) (sl (Ma0 y10 y11) (sl (!t19) (some (b false,[])) (sl t1 (sl a2 (sl y14 (some (b (t5==0),[])) none) none) (some (b false,[])))) none) none) none) none) none) none) none)) none) none) none) none)) none) none) none) none) none) none) none)) none) none) none) none)) none) none) none) none) none) none) none)) none) none) none) none) none) none);let w1:ROq:=(sl a2 (sl (Jc8 y0 y15) (sl a2 (sl y14 (sl a2 (sl (Ca4 y0) (sl (t5 != t6) (some (b false,[])) (sl a2 (sl (pa3 y0) (sl a2 (sl (kb7 y0) (sl a10 (sl a11 (sl (Ma0 y7 y8) (sl (!t9) (some (b false,[])) (sl a4 (sl (V0 y1) (sl a4 (sl (Ca4 y1) (sl (t10 != t11) (some (b false,[])) (sl a4 (sl (pa3 y1) (sl a4 (sl (kb7 y1) (sl a8 (sl a9 (sl (Ma0 y5 y6) (sl (!t14) (some (b false,[])) (sl a6 (sl (V0 y3) (sl a6 (sl (Ca4 y3) (sl (t20 != t21) (some (b false,[])) (sl a6 (sl (pa3 y3) (sl a6 (sl (kb7 y3) (sl ((okE tB t22.su)&&((okE tB t22.to)&&((okE tLq t22.cu)&&true))) (sl ((okE tB t23.su)&&((okE tB t23.to)&&((okE tLq t23.cu)&&true))) (sl (Ma0 y12 y13) (sl (!t24) (some (b false,[])) (sl t1 (sl a2 (sl y14 (some (b (t5==0),[])) none) none) (some (b false,[])))) none) none) none) none) none) none) none)) none) none) none) none)) none) none) none) none) none) none) none)) none) none) none) none)) none) none) none) none) none) none) none)) none) none) none) none) none) none);(sl rb7 (sl ((okE tI x.p0)&&((okE tI x.p1)&&((okE (tLs tI) x.c0)&&((okE (tLs tI) x.c1)&&((okE (tLs tI) x.t0)&&((okE (tLs tI) x.t1)&&true)))))) (sl (rb5 y4) (sl (inB (if 18<y9 then 18 else y9) ((List.length y.wt)+1)) (sl ((cnE tI x.p0)&&((cnE tI x.p1)&&((cnE (tLs tI) x.c0)&&((cnE (tLs tI) x.c1)&&((cnE (tLs tI) x.t0)&&((cnE (tLs tI) x.t1)&&((cnE tLq y.cl)&&((cnE tI y.wt)&&((cnE tLq t2.cl)&&((cnE tI t2.wt)&&true)))))))))) (sl (Nat.beq t3.1 1) w0 (sl (Nat.beq t3.1 2) w0 (sl (Nat.beq t3.1 3) w1 (sl (Nat.beq t3.1 4) w1 none)))) none) none) none) none) none)
def Fa6(x:Cse)(y:Prt):Bool:=V2 (one r1B) (ta0 x y)
def Fa7(x:Cse)(y:Prt):Bool:=okO (one r1B) (ta0 x y)
def Mc4:Sum:=ta3 cF cJ (λx y=>.guard (Fa7 x y) (.ret ((one r1B).enc (Fa6 x y),[])))
theorem Fc5:j6 prog G 3 Mc4:=ub3 (bd b3 vc8) (one r1B) (o:=ta0) λx y=>sd1 (.s .p (.s .p (.s .p (.s .p (.s (.s .p (.b (.u Ta1.lsM))) .p))))) [Ta1.prM] (by kernel_rfl) (.cons pc7 .nil) (by kernel_rfl)
theorem qg4(n:Nat)(c:Nat):(if (c:Int)<(n:Int) then (c:Int) else (n:Int))=((min n c:Nat):Int):=by split<;>omega
theorem ef1(x:Cse):Rd (one r1J) (Da3 x) (λr=>r=xb2 ⟨x.p0,x.p1⟩):=by
 unfold Da3;simp only[j8,w7,Qmj,gg9,g9];exact⟨_,_,rfl,Ue5 (.eL tLq _) (.eL tI _),rfl⟩
theorem hg5(x:Cse):rb4 x=xb2 ⟨x.p0,x.p1⟩:=(ef1 x).p
theorem hg6(x:Cse):rb5 x=true:=(ef1 x).g
theorem rb8.ls{E:List (List d7)}{l:LPq}(h:rb8 E l){n:Nat}(hn:n=l.length):lsL tLq n (λk=>g8 E (0+k))=l/\okL tLq n (λk=>g8 E (0+k))=true:=by
 have c:=h.all hn;refine⟨c.rd,?_⟩
 have:=c.ok
 exact this
theorem rb8.app{E:List (List d7)}{l:LPq}(h:rb8 E l){r:d7}{c:PLq}(h1:tLq.rd [r]=c)(h2:tLq.ok [r]=true):rb8 (Go.Ev.app E [[r]]) (l++[c]):=by
 have hE:E.length=l.length:=by rw[<- p9];exact h.n
 refine⟨by rw[G6,p9,Qma,Qma,hE];rfl,λk hk=>?_⟩
 rw[Qma,List.length_singleton] at hk;by_cases e:k<l.length
 ·obtain⟨r',g1,g2,g3⟩:=h.r k e;refine⟨r',?_,by rw[gd6 _ _ _ e];exact g2,g3⟩
  rw[<- g1];unfold g8;rw[G6,D7,D7,Qmi (by omega)]
 ·have:k=l.length:=by omega
  subst this;refine⟨r,?_,by rw[se6];exact h1,h2⟩
  unfold g8;rw[G6,D7,<- hE,Qmh (Nat.le_refl _),Nat.sub_self];rfl
def sm6(l:LPq)(j:Nat):LPq:=(l.take j).map (·.take 6)
theorem Ff5(l:LPq){j:Nat}(hj:j<l.length):sm6 l (j+1)=sm6 l j++[(gL tLq l j).take 6]:=by
 unfold sm6;rw[nc3 tLq hj,List.map_append];rfl
theorem se7(l:LPq){j:Nat}(hj:j<=l.length):(sm6 l j).length=j:=by
 unfold sm6;rw[List.length_map,Qme];omega
structure RCk(l:LPq)(j:Nat)(s:u5):Prop where
 le:j<=l.length
 j7:j<=17
 ph:s.ph=if j=0 then 0 else 1
 ix:s.is8=(j:Int)
 n:s.ba4=j
 e:rb8 s.eh4 (sm6 l j)
theorem Je5(q:H5) :
  ∃t s j,lp (ha5 q) ⟨0,0,0,[]⟩=(t,s)/\RCk q.p7 j s/\((j=0/\t=2)\/(j≠0/\(t=3\/t=4))):=by
 suffices key:∃t s,lp (ha5 q) ⟨0,0,0,[]⟩=(t,s)/\∃j,RCk q.p7 j s/\((j=0/\t=2)\/(j≠0/\(t=3\/t=4))) by
  obtain⟨t,s,h1,j,h2⟩:=key;exact⟨t,s,j,h1,h2⟩
 have hnil:rb8 ([]:List (List d7)) (sm6 q.p7 0):=by
  have:sm6 q.p7 0=[]:=by simp[sm6]
  rw[this];exact⟨rfl,λk hk=>absurd hk (Nat.not_lt_zero _)⟩
 refine Fa0 (step:=ha5 q) (mk:=λ_ (s:u5)=>s) 18 (λj s=>RCk q.p7 j s) (λt s=>∃j,RCk q.p7 j s/\((j=0/\t=2)\/(j≠0/\(t=3\/t=4)))) (by omega)
  (λj s hj hi=>?_) (λj s hj hi=>absurd hi.j7 (by omega)) 0 _ ⟨Nat.zero_le _,by omega,rfl,rfl,rfl,hnil⟩
 have hi':=hi;obtain⟨h1,h2,h3,h4,h5,h6⟩:=hi;obtain⟨ph,is,n,e⟩:=s
 simp only at h3 h4 h5 h6
 subst h3 h4 h5;have hE:len e=n:=by rw[h6.n,se7 _ h1]
 by_cases hend:n<q.p7.length/\n<17
 ·obtain⟨g1,g2⟩:=hend;have hw1:W ((n:Int)+1)=((n+1:Nat):Int):=u7 (n:=18) (by omega) (by omega)
  have hm:=qg4 (gL tLq q.p7 n).length 6;have e6:((6:Nat):Int)=6:=rfl;rw[e6] at hm;have hin:inB ((min (gL tLq q.p7 n).length 6:Nat):Int) ((gL tLq q.p7 n).length+1)=true:=i9 (by omega)
  obtain⟨t1,t2⟩:=Od5 tP (gL tLq q.p7 n) (min (gL tLq q.p7 n).length 6) (by omega)
  have htk:(gL tLq q.p7 n).take (min (gL tLq q.p7 n).length 6)=(gL tLq q.p7 n).take 6:=by
   rw[List.take_eq_take_iff];omega
  rw[htk] at t1;have A:rb8 (Go.Ev.app e [[d7.tree 4 (min (gL tLq q.p7 n).length 6-0) (λk=>(λk=>(tP).row (gL tP (gL tLq q.p7 n) k)) (0+k))]]) (sm6 q.p7 (n+1)):=by
   rw[Ff5 _ g1];refine h6.app t1 ?_;show Bool.and (Nat.beq 4 4) (okL tP _ _)=true;rw[t2];rfl
  by_cases h0:n=0
  ·subst h0;have hen:e=[]:=by rw[p9] at hE;exact List.length_eq_zero_iff.1 hE
   subst hen;refine .inr ⟨⟨1,((0+1:Nat):Int),0+1,Go.Ev.app [] [[d7.tree 4 (min (gL tLq q.p7 0).length 6-0) (λk=>(λk=>(tP).row (gL tP (gL tLq q.p7 0) k)) (0+k))]]⟩,?_,_,rfl,by omega,by omega,by rw[if_neg (by omega)],rfl,rfl,A⟩
   rw[if_pos rfl];show N4 Stp.next Stp.exit Stp.fail _ _=_;simp only[N4,Int.toNat_natCast,hw1,hm,hin];rw[btD (o6 g1),btD (by omega),bt (i9 g1),bt (i9 g1),g9]
   rfl
  ·refine .inr ⟨⟨1,((n+1:Nat):Int),n+1,Go.Ev.app e [[d7.tree 4 (min (gL tLq q.p7 n).length 6-0) (λk=>(λk=>(tP).row (gL tP (gL tLq q.p7 n) k)) (0+k))]]⟩,?_,_,rfl,by omega,by omega,by rw[if_neg (by omega)],rfl,rfl,A⟩
   rw[if_neg h0];show E1 Stp.next Stp.exit Stp.fail _ _=_;simp only[E1,Int.toNat_natCast,hw1,hm,hin];rw[btD (o6 g1),btD (by omega),bt (i9 g1),bt (i9 g1),g9,bt]
   rw[hE,Qmk,Qmf,Qmp];unfold room;omega
 ·by_cases h0:n=0
  ·subst h0;refine .inl ⟨2,?_,0,hi',.inl ⟨rfl,rfl⟩⟩;rw[if_pos rfl];show N4 Stp.next Stp.exit Stp.fail _ _=_;simp only[N4];rw[bfD (by omega)]
  ·rw[if_neg h0];by_cases h7:n<q.p7.length
   ·refine .inl ⟨3,?_,n,by rw[if_neg h0] at hi';exact hi',.inr ⟨h0,.inl rfl⟩⟩
    show E1 Stp.next Stp.exit Stp.fail _ _=_;simp only[E1];rw[btD (o6 h7),bfD (by omega)]
   ·refine .inl ⟨4,?_,n,by rw[if_neg h0] at hi';exact hi',.inr ⟨h0,.inr rfl⟩⟩
    show E1 Stp.next Stp.exit Stp.fail _ _=_;simp only[E1];rw[bfD (by omega)]
theorem Jc9{x:Prt}(h:Jok x):Pok (He7 x):=⟨by show (List.replicate x.cl.length false).length<=_;rw[Qmn];exact h.cl,by show (List.replicate x.cl.length false).length<=_;rw[Qmn];exact h.cl,by show 0<=_;omega,by intro q hq;cases hq⟩
theorem Rd1(x:Cse)(y:Prt):ta0 x y=some (b true,[]):=by
 have m:=gg8 ⟨x.p0,x.p1⟩;have pc:=hg5 x;have gc:=hg6 x;generalize xb2 ⟨x.p0,x.p1⟩=p at m pc;have hj:Mp ⟨p.nm,p.cl,p.wt⟩:=m;have a1:=Dc3 hj.jok;have a2:=Uc9 hj.jok;have a3:=Se8 hj.jok;have a4:=Se9 hj.jok;have a5:=cf9 hj.jok.cl;have a6:=df0 hj.jok.cl;have a7:=Te5 hj.jok.cl;have a8:=Te6 hj.jok.cl;have a9:=re3 (Jc9 hj.jok);have a0:=re4 (Jc9 hj.jok);have ck:cc2 ⟨p.nm,p.cl,p.wt⟩=0:=hj.chk;have od:=hg3 hj ⟨x.q0,x.q1,x.q2⟩;have og:=hg4 hj ⟨x.q0,x.q1,x.q2⟩;generalize hz:Jc7 ⟨p.nm,p.cl,p.wt⟩ ⟨x.q0,x.q1,x.q2⟩=z at od;have od':Jok ⟨z.nm,z.cl,z.wt⟩:=od;have b1:=Dc3 od';have b2:=Uc9 od';have b3:=Se8 od';have b4:=Se9 od';have b5:=cf9 od'.cl;have b6:=df0 od'.cl;have b7:=Te5 od'.cl;have b8:=Te6 od'.cl;have b9:=re3 (Jc9 od');have b0:=re4 (Jc9 od');obtain⟨t,s,j,hlp,hr,ht⟩:=Je5 ⟨true,x.p0,x.p1,x.c0,x.c1,x.t0,x.t1,x.q0,x.q1,x.q2,x.q3,x.q4,x.q5,y.nm,y.cl,y.wt,p.nm,p.cl,p.wt,⟨#[]⟩,(if 18<(↑(List.length y.wt):Int) then 18 else (↑(List.length y.wt):Int)).toNat-0,λk=>(λk=>(tI).row (gL tI y.wt k)) (0+k)⟩
 have hm:=qg4 y.wt.length 18;have e18:((18:Nat):Int)=18:=rfl;rw[e18] at hm;simp only[hm,Int.toNat_natCast] at hlp;obtain⟨w1,w2⟩:=Od5 tI y.wt (min y.wt.length 18) (by omega)
 simp only[Qmb] at w1 w2 hlp;obtain⟨l1,l2⟩:=hr.e.ls (n:=j) (by rw[se7 _ hr.le])
 simp only[Qmb] at l1 l2;have hin:inB ((min y.wt.length 18:Nat):Int) (y.wt.length+1)=true:=i9 (by omega)
 have sj:Jok ⟨⟨#[]⟩,sm6 y.cl j,y.wt.take (min y.wt.length 18)⟩:=Ff4 (by rw[se7 _ hr.le];have:=hr.j7;omega) (by rw[Qme];omega) (λq hq=>by
  unfold sm6 at hq;obtain⟨c,_,rfl⟩:=List.mem_map.1 hq;show (c.take 6).length<=1000;rw[Qme]
  omega)
 have c1:=Dc3 sj;have c2:=Uc9 sj;have c3:=Se8 sj;have c4:=Se9 sj;have c5:=cf9 sj.cl;have c6:=df0 sj.cl;have c7:=Te5 sj.cl;have c8:=Te6 sj.cl;have c9:=re3 (Jc9 sj);have c0:=re4 (Jc9 sj);unfold He7 at a5 a7 a9 a0 b5 b7 b9 b0 c5 c7 c9 c0;unfold ta0
 rcases ht with⟨h0,rfl⟩|⟨h0,ht⟩
 ·subst h0;have es:sm6 y.cl 0=[]:=by simp[sm6]
  rw[es] at c1 c2 c3 c4 c5 c6 c7 c8 c9 c0;simp only[Qmb,hz,j8,w7,l8,Qmj,Qmf,g9,Wc1,Wc0,pc,gc,hm,Int.toNat_natCast,hin,hlp,og,a1,a2,a3,a4,a5,a6,a7,a8,a9,a0,b1,b2,b3,b4,b5,b6,b7,b8,b9,b0,w1,w2,c1,c2,c3,c4,c5,c6,c7,c8,c9,c0,bne_self_eq_false,Qmq,w6,ck,show Nat.beq 2 1=false from rfl,show Nat.beq 2 2=true from rfl]
  rfl
 ·rcases ht with rfl|rfl
  ·simp only[Qmb,hz,j8,w7,l8,Qmj,Qmf,g9,Wc1,Wc0,pc,gc,hm,Int.toNat_natCast,hin,hlp,hr.n,og,a1,a2,a3,a4,a5,a6,a7,a8,a9,a0,b1,b2,b3,b4,b5,b6,b7,b8,b9,b0,w1,w2,l1,l2,c1,c2,c3,c4,c5,c6,c7,c8,c9,c0,bne_self_eq_false,Qmq,w6,ck,show Nat.beq 3 1=false from rfl,show Nat.beq 3 2=false from rfl,show Nat.beq 3 3=true from rfl]
   rfl
  ·simp only[Qmb,hz,j8,w7,l8,Qmj,Qmf,g9,Wc1,Wc0,pc,gc,hm,Int.toNat_natCast,hin,hlp,hr.n,og,a1,a2,a3,a4,a5,a6,a7,a8,a9,a0,b1,b2,b3,b4,b5,b6,b7,b8,b9,b0,w1,w2,l1,l2,c1,c2,c3,c4,c5,c6,c7,c8,c9,c0,bne_self_eq_false,Qmq,w6,ck,show Nat.beq 4 1=false from rfl,show Nat.beq 4 2=false from rfl,show Nat.beq 4 3=false from rfl,show Nat.beq 4 4=true from rfl]
   rfl
theorem Ue7(x:Cse)(y:Prt):Fa6 x y=true:=by unfold Fa6;rw[Rd1 x y];rfl
theorem Ue8(x:Cse)(y:Prt):Fa7 x y=true:=by unfold Fa7;rw[Rd1 x y];rfl
end Go.Ev.Ce
namespace Go.Ev.Ce
open Go Go.Ev Go.Ev.L Go.ChangeShapes Go.RowKit
section
variable{D:Type}{enc:TypeId×Value->D}{P:Program}{w:World}{spare:Nat->Bool}{held:Bool}
def Seg(w:World)(ok:List d7->Prop)(cs:List Value):Prop:=∃avs:List d7,avs.length=cs.length/\ok avs/\∀(i:Nat) x v,avs[i]?=some x->cs[i]?=some v->la5 (qe4 w) w x v
theorem Seg.imp{o o':List d7->Prop}{cs:List Value}(h:Seg w o cs)(k:∀a,o a->o' a):Seg w o' cs:=by
 obtain⟨a,h1,h2,h3⟩:=h;exact⟨a,h1,k a h2,h3⟩
theorem Seg.app{o o':List d7->Prop}{a c:List Value}(h:Seg w o a)(k:Seg w o' c):Seg w (λl=>∃u v,l=u++v/\o u/\o' v) (a++c):=by
 obtain⟨u,h1,h2,h3⟩:=h;obtain⟨v,k1,k2,k3⟩:=k;refine⟨u++v,by simp[h1,k1],⟨u,v,rfl,h2,k2⟩,λi x y hx hy=>?_⟩
 by_cases hi:i<u.length
 ·rw[Qmi hi] at hx;rw[Qmi (by omega)] at hy
  exact h3 i x y hx hy
 ·rw[Qmh (by omega)] at hx
  rw[Qmh (by omega),<- h1] at hy
  exact k3 _ x y hx hy
theorem Rd2{α:Type}(t:Ty α){e:TypeId}{d:Nat}(hf:ma8 P d e=some (Ra9 .i64 t.es))(ht:∀g,t.ok (Cc7 .i64 t.es g)=true){fuel:Nat}{cs:List Value}{x:DataW D×List MemPlace}
  (hx:DataW.trod enc P w 0 spare held fuel e cs=some x) (hl:cs.length=t.es):Seg w (λa=>t.ok a=true) cs:=by
 obtain⟨g,hg⟩:=af4 hf hx hl;refine⟨Cc7 .i64 t.es g,by simp[Cc7,hl],ht g,λi x v h1 h2=>?_⟩
 obtain⟨hi,rfl⟩:=Nd1 h1;rw[hg i hi] at h2;cases h2;exact Fe5 _ _
theorem Sf7{t:TypeId}(ht:P.underlying t=some .string){fuel:Nat}{cs:List Value}{x:DataW D×List MemPlace}(hx:DataW.trod enc P w 0 spare held fuel t cs=some x):Seg w (λa=>∃s,a=[.v (.string s)]) cs:=by
 obtain⟨s,rfl,_,_⟩:=DataW.trod_string ht hx;refine⟨[.v (.string s)],rfl,⟨s,rfl⟩,λi x v h1 h2=>?_⟩
 match i,h1,h2 with
 |0,h1,h2=>cases h1;cases h2;exact .v _ rfl
theorem of1{a:Addr}{n:Nat}{row:List Value}(h:w.cells? 0 a n=some row):row.length=n/\∀c,c<n->w.cell? (a.add c)=row[c]?:=by
 unfold World.cells? at h
 split at h
 ·obtain⟨l1,l2⟩:=Cc6 h;have hl:row.length=n:=by simpa using l1
  refine⟨hl,λc hc=>?_⟩
  obtain⟨i,hi,hi2⟩:=l2 c _ (Qmc (by omega))
  rw[List.getElem?_range hc] at hi;injection hi with hi;subst hi;rw[hi2,Qmc]
 ·cases h
theorem ic2{α:Type}(t:Ty α){s e:TypeId}(hs:P.underlying s=some (.slice e))(hce:P.cellsOf e=t.es)(h0:0<t.es)
  (hE:∀(fuel:Nat) (row:List Value) (y:DataW D×List MemPlace),DataW.trod enc P w 0 spare held fuel e row=some y->row.length=t.es->Seg w (λa=>t.ok a=true) row)
  {fuel:Nat} {cs:List Value} {x:DataW D×List MemPlace} (hx:DataW.trod enc P w 0 spare held fuel s cs=some x) :
  Seg w (λa=>∃n get,a=[.tree t.es n get]/\n<=maxLen/\(tLs t).ok a=true) cs:=by
 rcases Bf0 hs hx with rfl|⟨a,n,cap,fuel',rfl,hn,hc,hel⟩
 ·refine⟨[.tree t.es 0 λ_=>[]],rfl,⟨0,_,rfl,Nat.zero_le _,?_⟩,λi x v h1 h2=>?_⟩
  ·show Bool.and (Nat.beq t.es t.es) (okL t 0 λ_=>[])=true
   rw[Qmk];rfl
  ·match i,h1,h2 with
   |0,h1,h2=>cases h1;cases h2;exact .nil _ _
 ·rw[hce] at hel;have hcell:∀j,∃q:List d7×List Value,j<n->q.2.length=t.es/\q.1.length=t.es/\t.ok q.1=true/\(∀c,c<t.es->w.cell? ((a.add (j*t.es)).add c)=q.2[c]?)/\∀(i:Nat) x v,q.1[i]?=some x->q.2[i]?=some v->la5 (qe4 w) w x v:=λj=>by
   by_cases hj:j<n
   ·obtain⟨row,y,h1,h2⟩:=hel j hj;obtain⟨g1,g2⟩:=of1 h1;obtain⟨avs,k1,k2,k3⟩:=hE fuel' row y h2 g1;exact⟨(avs,row),λ_=>⟨g1,by rw[k1,g1],k2,g2,k3⟩⟩
   ·exact⟨([],[]),λh=>absurd h hj⟩
  obtain⟨q,hq⟩:=Classical.axiomOfChoice hcell;have hspot:0<n->a.spot=none:=λhn=>by
   obtain⟨k1,_,_,k4,_⟩:=hq 0 hn
   have:=k4 0 h0
   rw[Qmc (by omega)] at this
   simpa [Addr.add] using World.cell?_spot this
  have hw:∀j c,j<n->c<t.es->w.cell? ⟨a.block,a.off+(j*t.es+c),none⟩=some ((q j).2.getD c (.bool true)):=λj c hj hc=>by
   obtain⟨k1,_,_,k4,_⟩:=hq j hj
   have:=k4 c hc
   rw[ca0 (hspot (by omega)),ca0 rfl] at this
   rw[Qmg,Qmc (by omega)]
   rw[Qmc (by omega)] at this
   simpa [Nat.add_assoc] using this
  refine⟨[.tree t.es n λj=>(q j).1],rfl,⟨n,_,rfl,Nat.le_trans hn hc,?_⟩,λi x v h1 h2=>?_⟩
  ·show Bool.and (Nat.beq t.es t.es) (okL t n λj=>(q j).1)=true
   rw[Qmk,Qmf];unfold okL;rw[List.all_eq_true];exact λj hj=>(hq j (by simpa using hj)).2.2.1
  ·match i,h1,h2 with
   |0,h1,h2 =>
    cases h1;cases h2;refine .tree t.es n _ a cap (λj c=>(q j).2.getD c (.bool true)) hspot hn (λi hi=>(hq i hi).2.1) (λi c hi hc=>?_) hw λi c hi hc=>?_
    ·unfold qe4;rw[hw i c hi hc];rfl
    ·obtain⟨k1,k2,_,_,k5⟩:=hq i hi;have hc2:c<(q i).2.length:=by omega
     refine k5 c _ _ (Qmc hc) ?_;rw[Qmg,Qmc hc2];rfl
theorem qd1{t e:TypeId}{m:Nat}{o:List d7->Prop}(ht:P.underlying t=some (.array 2 e))(hce:P.cellsOf e=m)(hct:P.cellsOf t=m+m)
  (hE:∀(fuel:Nat) (row:List Value) (y:DataW D×List MemPlace),DataW.trod enc P w 0 spare held fuel e row=some y->row.length=m->Seg w o row)
  {fuel:Nat} {cs:List Value} {x:DataW D×List MemPlace} (hx:DataW.trod enc P w 0 spare held fuel t cs=some x):Seg w (λl=>∃u v,l=u++v/\o u/\o v) cs:=by
 obtain⟨hl,f1,xs,hn,_,hxs⟩:=Fe4 ht hx;rw[hct] at hl;have h0:=hxs 0 _ (Qmc (by omega))
 have h1:=hxs 1 _ (Qmc (by omega))
 rw[hce] at h0 h1;have s0:=hE _ _ _ h0 (by simp;omega)
 have s1:=hE _ _ _ h1 (by simp;omega)
 have:=s0.app s1
 have e:(cs.drop (0*m)).take m++(cs.drop (1*m)).take m=cs:=by
  rw[Nat.zero_mul,List.drop_zero,Nat.one_mul,List.take_of_length_le (l:=cs.drop m) (by simp;omega),List.take_append_drop]
 rw[e] at this;exact this
theorem Ff6{ρ:Rho}{H:List d8}{t ts tc tw te ti:TypeId}{f0 f1 f2:Field}{v:Value}{dd:DataW D}{pp:List MemPlace}{bs:Nat}{r:Reach}{d:Nat}
  (ht:P.underlying t=some (.struct #[f0,f1,f2])) (e0:f0.type=ts/\f0.offset=0) (e1:f1.type=tc/\f1.offset=1) (e2:f2.type=tw/\f2.offset=2)
  (hs:P.underlying ts=some .string) (hc:P.underlying tc=some (.slice te)) (he:P.underlying te=some (.slice ti)) (hw:P.underlying tw=some (.slice 3))
  (c1:P.cellsOf ts=1/\P.cellsOf tc=1/\P.cellsOf tw=1/\P.cellsOf te=1/\P.cellsOf ti=4/\P.cellsOf 3=1/\P.cellsOf t=3) (hf:ma8 P d ti=some (Ra9 .i64 4)) (hf2:ma8 P d 3=some (Ra9 .i64 1))
  (hok:Value.okWide P w r bs t v) (h:DataW.Trod enc P w 0 spare held t v dd pp) :
  ∃avs:List d7,(∃s n g y,avs=[.v (.string s),.tree 1 n g,y]/\n<=maxLen/\af5 avs=true/\af7 avs=true)/\ta1 ρ H (qe4 w) w (.agg avs) v:=by
 have hv:∃cs:Array Value,v=.agg cs/\cs.size=P.cellsOf t:=by
  unfold Value.okWide at hok;rw[ht] at hok;obtain⟨cs,h1,h2,_⟩:=hok;exact⟨cs,h1,h2⟩
 obtain⟨cs,rfl,hsz⟩:=hv;obtain⟨fuel,hx⟩:=h;have hx:DataW.trod enc P w 0 spare held fuel t cs.toList=some (dd,pp):=hx;obtain⟨k0,k1,k2,k3,k4,k5,k6⟩:=c1;obtain⟨_,fu,xs,_,_,hxs⟩:=od0 ht hx;obtain⟨y0,_,g0⟩:=hxs 0 f0 rfl;obtain⟨y1,_,g1⟩:=hxs 1 f1 rfl;obtain⟨y2,_,g2⟩:=hxs 2 f2 rfl;rw[e0.1,e0.2,k0] at g0;rw[e1.1,e1.2,k1] at g1;rw[e2.1,e2.2,k2] at g2;have s0:=Sf7 hs g0;have s1:=ic2 tLq hc k3 (by decide) (λf row y h _=>(ic2 tP he k4 (by decide) (λf row y h hl=>Rd2 tP hf (λ_=>rfl) h hl) h).imp λa ha=>by obtain⟨_,_,rfl,_,h⟩:=ha;exact h) g1
 have s2:=ic2 tI hw k5 (by decide) (λf row y h hl=>Rd2 tI hf2 (λ_=>rfl) h hl) g2
 have hl3:cs.toList.length=3:=by rw[Array.length_toList,hsz,k6]
 have hS:=s0.app (s1.app s2);have e:(cs.toList.drop 0).take 1++((cs.toList.drop 1).take 1++(cs.toList.drop 2).take 1)=cs.toList:=by
  match cs.toList,hl3 with
  |[a,c,d],_=>rfl
 rw[e] at hS;obtain⟨avs,q1,⟨u,v,rfl,⟨s,rfl⟩,u',v',rfl,⟨n,g,rfl,hn,o1⟩,m,g',rfl,_,o2⟩,q3⟩:=hS;refine⟨_,⟨s,n,g,_,rfl,hn,?_,rfl⟩,.agg _ _ (q1.trans (by rw[Array.length_toList])) λi x x' h1 h2=>.mem (q3 i x x' h1 (by rw[Qmo];exact h2))⟩
 show Bool.and (tMq.ok [.tree 1 n g]) (Bool.and ((tLs tI).ok [.tree 1 m g']) true)=true;rw[show tMq.ok [.tree 1 n g]=true from o1,show (tLs tI).ok [.tree 1 m g']=true from o2]
 rfl
theorem Ff7{avs:List d7}(h:∃s n g y,avs=[.v (.string s),.tree 1 n g,y]/\n<=maxLen/\af5 avs=true/\af7 avs=true):∃a:Prt,Rdg cJ (.agg avs) a:=by
 obtain⟨s,n,g,y,rfl,hn,h1,h2⟩:=h;refine⟨tJ.rd [.v (.string s),.tree 1 n g,y],?_,h1⟩
 ·show Bool.rec (motive:=λ_=>Option Prt) none (some (tJ.rd [.v (.string s),.tree 1 n g,y])) (af7 [.v (.string s),.tree 1 n g,y])=_
  rw[h2]
theorem Ff8{ρ:Rho}{H:List d8}{t t0 t1 t3 e1 ti:TypeId}{f0 f1 f2 f3:Field}{v:Value}{dd:DataW D}{pp:List MemPlace}{bs:Nat}{r:Reach}{d:Nat}
  (ht:P.underlying t=some (.struct #[f0,f1,f2,f3])) (q0:f0.type=t0/\f0.offset=0) (q1:f1.type=t1/\f1.offset=2) (q2:f2.type=t1/\f2.offset=4) (q3:f3.type=t3/\f3.offset=6)
  (h0:P.underlying t0=some (.array 2 ti)) (hi:P.underlying ti=some (.slice 3)) (h1:P.underlying t1=some (.array 2 e1)) (he:P.underlying e1=some (.slice ti))
  (c1:P.cellsOf t0=2/\P.cellsOf t1=2/\P.cellsOf t3=6/\P.cellsOf ti=1/\P.cellsOf e1=1/\P.cellsOf 3=1/\P.cellsOf t=12) (hf:ma8 P d t3=some (Ra9 .i64 6)) (hf2:ma8 P d 3=some (Ra9 .i64 1))
  (hok:Value.okWide P w r bs t v) (h:DataW.Trod enc P w 0 spare held t v dd pp) :
  ∃avs:List d7,(af6 avs=true/\af8 avs=true)/\ta1 ρ H (qe4 w) w (.agg avs) v:=by
 have hv:∃cs:Array Value,v=.agg cs/\cs.size=P.cellsOf t:=by
  unfold Value.okWide at hok;rw[ht] at hok;obtain⟨cs,h1,h2,_⟩:=hok;exact⟨cs,h1,h2⟩
 obtain⟨cs,rfl,hsz⟩:=hv;obtain⟨fuel,hx⟩:=h;have hx:DataW.trod enc P w 0 spare held fuel t cs.toList=some (dd,pp):=hx;obtain⟨k0,k1,k2,k3,k4,k5,k6⟩:=c1;obtain⟨_,fu,xs,_,_,hxs⟩:=od0 ht hx;obtain⟨y0,_,g0⟩:=hxs 0 f0 rfl;obtain⟨y1,_,g1⟩:=hxs 1 f1 rfl;obtain⟨y2,_,g2⟩:=hxs 2 f2 rfl;obtain⟨y3,_,g3⟩:=hxs 3 f3 rfl;rw[q0.1,q0.2,k0] at g0;rw[q1.1,q1.2,k1] at g1;rw[q2.1,q2.2,k1] at g2;rw[q3.1,q3.2,k2] at g3;have hl:cs.toList.length=12:=by rw[Array.length_toList,hsz,k6]
 have sI:∀(f:Nat) (row:List Value) (y:DataW D×List MemPlace),DataW.trod enc P w 0 spare held f ti row=some y->row.length=1->Seg w (λa=>∃n get,a=[.tree 1 n get]/\n<=maxLen/\(tLs tI).ok a=true) row:=λf row y h _ =>
  ic2 tI hi k5 (by decide) (λf row y h hl=>Rd2 tI hf2 (λ_=>rfl) h hl) h
 have sJ:∀(f:Nat) (row:List Value) (y:DataW D×List MemPlace),DataW.trod enc P w 0 spare held f e1 row=some y->row.length=1->Seg w (λa=>∃n get,a=[.tree 1 n get]/\n<=maxLen/\(tLs (tLs tI)).ok a=true) row:=λf row y h _ =>
  ic2 (tLs tI) he k3 (by decide) (λf row y h hl=>(sI f row y h hl).imp λa ha=>by obtain⟨_,_,rfl,_,h⟩:=ha;exact h) h
 have s0:=qd1 h0 k3 (by rw[k0]) sI g0
 have s1:=qd1 h1 k4 (by rw[k1]) sJ g1
 have s2:=qd1 h1 k4 (by rw[k1]) sJ g2
 have s3:Seg w (λa=>∃g,a=Cc7 .i64 6 g) ((cs.toList.drop 6).take 6):=by
  obtain⟨g,hg⟩:=af4 hf g3 (by simp[hl])
  refine⟨Cc7 .i64 6 g,by simp[Cc7,hl],⟨g,rfl⟩,λi x v h1 h2=>?_⟩
  obtain⟨hi,rfl⟩:=Nd1 h1;rw[hg i hi] at h2;cases h2;exact Fe5 _ _
 have hS:=s0.app (s1.app (s2.app s3));have e:(cs.toList.drop 0).take 2++((cs.toList.drop 2).take 2++((cs.toList.drop 4).take 2++(cs.toList.drop 6).take 6))=cs.toList:=by
  match cs.toList,hl with
  |[_,_,_,_,_,_,_,_,_,_,_,_],_=>rfl
 rw[e] at hS;obtain⟨avs,p1,⟨_,_,rfl,⟨_,_,rfl,⟨n0,g0,rfl,_,o0⟩,n1,g1,rfl,_,o1⟩,_,_,rfl,⟨_,_,rfl,⟨n2,g2,rfl,_,o2⟩,n3,g3,rfl,_,o3⟩,_,_,rfl,⟨_,_,rfl,⟨n4,g4,rfl,_,o4⟩,n5,g5,rfl,_,o5⟩,g6,rfl⟩,p3⟩:=hS;refine⟨_,⟨?_,rfl⟩,.agg _ _ (p1.trans (by rw[Array.length_toList])) λi x x' h1 h2=>.mem (p3 i x x' h1 (by rw[Qmo];exact h2))⟩
 show Bool.and ((tLs tI).ok [.tree 1 n0 g0]) (Bool.and ((tLs tI).ok [.tree 1 n1 g1]) (Bool.and ((tLs (tLs tI)).ok [.tree 1 n2 g2]) (Bool.and ((tLs (tLs tI)).ok [.tree 1 n3 g3]) (Bool.and ((tLs (tLs tI)).ok [.tree 1 n4 g4]) (Bool.and ((tLs (tLs tI)).ok [.tree 1 n5 g5]) true)))))=true;rw[o0,o1,o2,o3,o4,o5];rfl
theorem Ff9{avs:List d7}(h:af6 avs=true/\af8 avs=true):∃a:Cse,Rdg cF (.agg avs) a:=⟨tF.rd avs,by
 show Bool.rec (motive:=λ_=>Option Cse) none (some (tF.rd avs)) (af8 avs)=_
 rw[h.2],h.1⟩
end
end Go.Ev.Ce
