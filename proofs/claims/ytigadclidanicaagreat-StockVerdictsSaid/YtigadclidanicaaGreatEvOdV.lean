/- Own work. -/
import Derived.Test.YtigadclidanicaaGreatEvOdR
import Derived.ChangeArms
set_option linter.all false
noncomputable section
def Qma:=@Go.Ev.Ce.Rd.sl
namespace Go.Ev.Ce
open Go Go.Ev Go.Ev.L Go.Proofs
set_option maxRecDepth 100000
structure Psm(x:Pce):Prop where
 su:x.su.length<=1000
 to:x.to.length<=1000
 cu:x.cu.length<=1000
 cl:∀q∈x.cu,q.length<=1000
theorem Psm.ok{x:Pce}(h:Psm x):Pok x:=⟨by have:=h.su;omega,by have:=h.to;omega,by have:=h.cu;omega,λq hq=>by have:=h.cl q hq;omega⟩
theorem bd6{a c d:b7}{su to:List Bool}{cu:LPq}(h1:CR tB a su)(h2:CR tB c to)(h3:CR tLq d cu)(k1:su.length<=1001)(k2:to.length<=1001)(k3:cu.length<=1001)(k4:∀q∈cu,q.length<=1000) :
  Rd (one r1O) (some (.agg [a,c,d],[])) Pok:=⟨_,_,rfl,gf2 h1 h2 h3,⟨by show su.length<=_;omega,by show to.length<=_;omega,by show cu.length<=_;omega,λq hq=>by have:=k4 q hq;omega⟩⟩
structure ROp(j:Nat)(s:E3)(O:LPq):Prop where
 ph:s.ph=phL O
 n:s.P1=O.length
 e:s.eh5=cpR O
 l:O.length=j
 c:∀q∈O,q.length<=1000
theorem rf4{a b' c:Int}{m0 m1:Nat}{e3 e4:List (List b7)}{O:LPq}(h1:O.length<=1000)(h3:∀q∈O,q.length<=1000) :
  ∃s O',lp (R7 ⟨a,b',c,m0,m1,e3,e4⟩) ⟨phL O,O.length,cpR O⟩=(2,s)/\s.P1=O'.length/\s.eh5=cpR O'/\O'.length<=1000/\∀q∈O',q.length<=1000:=by
 have M:=Ic2 b' (y:=3) (by decide) (by decide)
 have G:=lc6 b' (y:=3) (by decide) (by decide)
 have hm:0<=b' % 3/\b' % 3<3:=⟨Qiae _ (by decide),Qiv _ (by decide)⟩
 have hw:W (23+b' % 3)=23+b' % 3:=ia9 (by omega) (by omega)
 obtain⟨n,hn⟩:∃n:Nat,23+b' % 3=(n:Int):=⟨(23+b' % 3).toNat,by omega⟩
 have hw5:W (0-20)=-20:=rfl;have hw6:W (0-0)=-0:=rfl
 suffices key:∃t s,lp (R7 ⟨a,b',c,m0,m1,e3,e4⟩) ⟨phL O,O.length,cpR O⟩=(t,s)/\t=2/\∃O',ROp (max n O.length) s O' by
  obtain⟨t,s,k1,rfl,O',k⟩:=key;exact⟨s,O',k1,k.n,k.e,by rw[k.l];omega,k.c⟩
 refine da0 (step:=R7 ⟨a,b',c,m0,m1,e3,e4⟩) (mk:=λ_ (s:E3)=>s) (max n O.length) (λj s=>O.length<=j/\j<=max n O.length/\∃O',ROp j s O') (λt s=>t=2/\∃O',ROp (max n O.length) s O') (by omega)
  (λj s hj hi=>?_) (λj s hj hi=>?_) O.length _ ⟨Qaf _,by omega,O,rfl,rfl,rfl,rfl,h3⟩
 ·obtain⟨hOj,_,O',a1,a2,a3,a4,a5⟩:=hi;obtain⟨ph,n2,e5⟩:=s
  simp only at a1 a2 a3
  subst a1 a2 a3;have r1:=Wb1 O' (by omega)
  have hst:R7 ⟨a,b',c,m0,m1,e3,e4⟩ ⟨phL O',O'.length,cpR O'⟩=.next ⟨phL (O'++[bx 20 20 0 21 21 1]),(O'++[bx 20 20 0 21 21 1]).length,cpR (O'++[bx 20 20 0 21 21 1])⟩:=by
   rw[tb9,Qdc,List.length_singleton,<- bb4]
   rcases I6 O' with⟨h0,hnl⟩|hp
   ·rw[h0];show La9 Stp.next Stp.exit Stp.fail ⟨a,b',c,m0,m1,e3,e4⟩ ⟨0,O'.length,cpR O'⟩=_;simp only[La9,M,G,hw,Pb3,hw5,hw6,Nc2,g7];rw[btD (by omega),hnl]
    rfl
   ·rw[hp];show ha2 Stp.next Stp.exit Stp.fail _ _=_;simp only[ha2,M,G,hw,Pb3,hw5,hw6,Nc2,r1,g7];rw[btD (by omega)]
  show Nx (R7 ⟨a,b',c,m0,m1,e3,e4⟩ ⟨phL O',O'.length,cpR O'⟩) _ _;rw[hst];refine .nx ⟨_,rfl,by omega,by omega,O'++[bx 20 20 0 21 21 1],rfl,rfl,rfl,by rw[Qdc,a4];rfl,λq hq=>?_⟩
  rcases Qis.1 hq with hq|hq
  ·exact a5 q hq
  ·rw[Qla.1 hq,gc3];decide
 ·obtain⟨hOj,hjn,O',hi⟩:=hi;have hje:j=max n O.length:=by omega
  subst hje;refine⟨2,?_,rfl,O',hi⟩;obtain⟨a1,a2,a3,a4,a5⟩:=hi;obtain⟨ph,n2,e5⟩:=s
  simp only at a1 a2 a3
  subst a1 a2 a3
  rcases I6 O' with⟨h0,hnl⟩|hp
  ·rw[hnl] at a4;simp at a4;omega
  ·rw[hp];show ha2 Stp.next Stp.exit Stp.fail _ _=_;simp only[ha2,M,G,hw,g7];rw[bfD (by omega)]
theorem Me6(l:List Bool)(z:Int)(v:Bool)(h0:0<l.length)(h1:l.length<=1000):F4 z l.length=true/\inB (B4 z l.length) l.length=true /\
  (Nat.blt (B4 z l.length).toNat l.length&&Nat.ble 1 (len (c8 (bL tB l) (B4 z l.length).toNat)))=true /\
  CR tB (.tree 1 l.length (λk=>c8 (setAt (bL tB l) (B4 z l.length).toNat (Q0 (c8 (bL tB l) (B4 z l.length).toNat) 0 [b v])) k)) (l.set (B4 z l.length).toNat v):=by
 have hn:(0:Int)<(l.length:Int):=by omega
 have e:=Ic2 z (y:=(l.length:Int)) hn (by omega)
 have a1:=Qiae z (show (l.length:Int)≠0 by omega)
 have a2:=Qiv z hn;obtain⟨k,hk⟩:∃k:Nat,z % (l.length:Int)=(k:Int):=⟨(z % (l.length:Int)).toNat,by omega⟩
 have hkl:k<l.length:=by omega
 rw[e,hk,Int.toNat_natCast,Ng7 hkl];have c:=CR.bL tB (l.set k v) (n:=l.length) (by rw[Qig])
 simp only[Qar] at c;refine⟨lc6 z hn (by omega),l0 hkl,?_,?_⟩
 ·rw[show Nat.blt k l.length=true by rw[Qch];exact hkl];rfl
 ·rw[spB,Ng6];exact c
theorem hf3{x:Pce}(h:Psm x)(y:V3):Rd (one r1O) (Za2 x y) Pok:=by
 have h1:=h.su;have h2:=h.to;have h3:=h.cu;have cu:=Fd8 h.ok.cu h.ok.cl;have M6:=Ic2 y.x (y:=6) (by decide) (by decide);have G6:=lc6 y.x (y:=6) (by decide) (by decide)
 have r1:∀n:Nat,n<=1001->Nat.ble (n*1) room=true:=λn hn=>by rw[Qiy];unfold room;omega
 have S0:CR tB (.tree 1 x.su.length (λk=>c8 (bL tB x.su) (0+k))) x.su:=.bL tB x.su rfl
 have T0:CR tB (.tree 1 x.to.length (λk=>c8 (bL tB x.to) (0+k))) x.to:=.bL tB x.to rfl
 have S1:CR tB (.tree 1 (x.su.length+1) (λk=>c8 (app (bL tB x.su) [[b true]]) (0+k))) (x.su++[true]):=by
  rw[show app (bL tB x.su) [[b true]]=bL tB (x.su++[true]) from ra4 tB x.su [true]]
  exact .bL tB _ (by rw[Qdc];rfl)
 have T1:=gf9 tB x.to (n:=x.to.length / 2) (by omega)
 have hdv:W (Int.tdiv (x.to.length:Int) 2)=((x.to.length / 2:Nat):Int):=by
  rw[show Int.tdiv (x.to.length:Int) 2=((x.to.length / 2:Nat):Int) by rw[Int.tdiv_eq_ediv_of_nonneg (by omega)];omega,ia9 (by omega) (by omega)]
 have n11:Nat.beq 1 1=true:=rfl;have n21:Nat.beq 2 1=false:=rfl;have n22:Nat.beq 2 2=true:=rfl;have b24:Nat.ble ((x.cu.length+1)*24) room=true:=by rw[Qiy];unfold room;omega
 have one:∀(p:Pln),(b7.tree 4 1 λk=>c8 [[i p.n.x,i p.n.y,i p.n.z,i p.b]] k)=cpA [p]:=λp=>by
  have:=Lc4 [p]
  simp only[Qar] at this;exact this
 unfold Za2;simp only[l9,A3,cu,g7,A7,ra5,J2,nc6,Qar,Qim,M6,G6,Qke,r1 _ (show x.su.length<=1001 by omega),r1 _ (show x.to.length<=1001 by omega),r1 _ (show x.su.length+1<=1001 by omega),hdv,Int.toNat_natCast,Nat.sub_zero,
  l0 (show x.to.length / 2<x.to.length+1 by omega)]
 simp only[Qar] at S0 T0 S1 T1
 have fin : ∀ (C C1 C2 : b7) (K : ROq), CR tLq C x.cu → Rd (L.one r1O) K Pok → CR tLq C2 (x.cu ++ [[⟨⟨y.y, 1, 0⟩, y.z⟩]]) → Rd (L.one r1O)
   (sl (y.x % 6 == 0) (sl (decide ((x.su.length : Int) > 0)) (sl (F4 y.y x.su.length) (sl (inB (B4 y.y x.su.length) x.su.length) (sl (Nat.blt (B4 y.y x.su.length).toNat x.su.length && Nat.ble 1 (len (c8 (bL tB x.su) (B4 y.y x.su.length).toNat)))
     (some (.agg [.tree 1 x.su.length (λk=>c8 (setAt (bL tB x.su) (B4 y.y x.su.length).toNat (Q0 (c8 (bL tB x.su) (B4 y.y x.su.length).toNat) 0 [b (Int.tmod y.z 2==0)])) k),.tree 1 x.to.length (λk=>c8 (bL tB x.to) k),C],[])) none) none) none)
     (some (.agg [.tree 1 x.su.length (λk=>c8 (bL tB x.su) k),.tree 1 x.to.length (λk=>c8 (bL tB x.to) k),C],[])))
    (sl (y.x % 6==1) (sl (decide ((x.to.length:Int)>0)) (sl (F4 y.y x.to.length) (sl (inB (B4 y.y x.to.length) x.to.length) (sl (Nat.blt (B4 y.y x.to.length).toNat x.to.length&&Nat.ble 1 (len (c8 (bL tB x.to) (B4 y.y x.to.length).toNat)))
     (some (.agg [.tree 1 x.su.length (λk=>c8 (bL tB x.su) k),.tree 1 x.to.length (λk=>c8 (setAt (bL tB x.to) (B4 y.y x.to.length).toNat (Q0 (c8 (bL tB x.to) (B4 y.y x.to.length).toNat) 0 [b (Int.tmod y.z 2==0)])) k),C],[])) none) none) none)
     (some (.agg [.tree 1 x.su.length (λk=>c8 (bL tB x.su) k),.tree 1 x.to.length (λk=>c8 (bL tB x.to) k),C],[])))
    (sl (y.x % 6==2) (some (.agg [.tree 1 (x.su.length+1) (λk=>c8 (app (bL tB x.su) [[b true]]) k),.tree 1 x.to.length (λk=>c8 (bL tB x.to) k),C],[]))
    (sl (y.x % 6==3) (some (.agg [.tree 1 x.su.length (λk=>c8 (bL tB x.su) k),.tree 1 (x.to.length / 2) (λk=>c8 (bL tB x.to) k),C],[]))
    (sl (y.x % 6==4) K
    (sl (y.x % 6==5) (some (.agg [.tree 1 x.su.length (λk=>c8 (bL tB x.su) k),.tree 1 x.to.length (λk=>c8 (bL tB x.to) k),C2],[]))
     (some (.agg [.tree 1 x.su.length (λk=>c8 (bL tB x.su) k),.tree 1 x.to.length (λk=>c8 (bL tB x.to) k),C],[])))))))) Pok:=λC C1 C2 K hC hK hC2=>by
  have base:=bd6 S0 T0 hC (by omega) (by omega) (by omega) h.cl
  refine Qma (λ_=>Qma (λhd=>?_) λ_=>base) λ_=>Qma (λ_=>Qma (λhd=>?_) λ_=>base) λ_=>Qma (λ_=>?_) λ_=>Qma (λ_=>?_) λ_=>Qma (λ_=>hK) λ_=>Qma (λ_=>?_) λ_=>base
  ·obtain⟨k1,k2,k3,k4⟩:=Me6 x.su y.y (Int.tmod y.z 2==0) (by have:=of_decide_eq_true hd;omega) h1
   rw[k1,k2,k3];exact bd6 k4 T0 hC (by rw[Qig];omega) (by omega) (by omega) h.cl
  ·obtain⟨k1,k2,k3,k4⟩:=Me6 x.to y.y (Int.tmod y.z 2==0) (by have:=of_decide_eq_true hd;omega) h2
   rw[k1,k2,k3];exact bd6 S0 k4 hC (by omega) (by rw[Qig];omega) (by omega) h.cl
  ·exact bd6 S1 T0 hC (by rw[Qdc];simp;omega) (by omega) (by omega) h.cl
  ·exact bd6 S0 T1 hC (by omega) (by rw[Qia];omega) (by omega) h.cl
  ·refine bd6 S0 T0 hC2 (by omega) (by omega) (by rw[Qdc];simp;omega) λq hq=>?_
   rcases Qis.1 hq with hq|hq
   ·exact h.cl q hq
   ·rw[Qla.1 hq];simp
 obtain⟨s,O',e1,e2,e3,e4,e5⟩:=rf4 (a:=y.x) (b':=y.y) (c:=y.z) (m0:=x.su.length) (m1:=x.to.length) (e3:=bL tB x.su) (e4:=bL tB x.to) h3 h.cl;have C5:=CR.cp O' rfl;simp only[Qar] at C5;have K5:=bd6 S0 T0 C5 (by omega) (by omega) (by omega) e5
 by_cases hc:x.cu=[]
 ·simp only[if_pos hc,n11,n21,n22,g7,A7];rw[hc] at e1;have e1:lp (R7 ⟨y.x,y.y,y.z,x.su.length,x.to.length,bL tB x.su,bL tB x.to⟩) ⟨0,0,[]⟩=(2,s):=e1;rw[e1,e2,e3];simp only[n21,n22,g7,A7];have q:CR tLq (.tree 1 1 (λk=>c8 [[.tree 4 1 (λk=>c8 [[i y.y,i 1,i 0,i y.z]] k)]] k)) (x.cu++[[⟨⟨y.y,1,0⟩,y.z⟩]]):=by
   rw[hc,one ⟨⟨y.y,1,0⟩,y.z⟩]
   have:=CR.cp [[(⟨⟨y.y,1,0⟩,y.z⟩:Pln)]] (n:=1) rfl
   simp only[Qar] at this;exact this
  exact fin _ .unk _ _ (hc ▸ .nil tLq) K5 q
 ·simp only[if_neg hc,n11,n21,n22,g7,A7,uc0,Qim,b24,Qke];have hp:phL x.cu=1:=(I6 x.cu).elim (λh=>absurd h.2 hc) λh=>h
  rw[hp] at e1;rw[e1,e2,e3];simp only[n21,n22,g7,A7];have C0:=CR.cp x.cu rfl;have q:CR tLq (.tree 1 (x.cu.length+1) (λk=>c8 (app (cpR x.cu) [[.tree 4 1 (λk=>c8 [[i y.y,i 1,i 0,i y.z]] k)]]) k)) (x.cu++[[⟨⟨y.y,1,0⟩,y.z⟩]]):=by
   rw[one ⟨⟨y.y,1,0⟩,y.z⟩,bb4]
   have:=CR.cp (x.cu++[[(⟨⟨y.y,1,0⟩,y.z⟩:Pln)]]) (n:=x.cu.length+1) (by rw[Qdc];rfl)
   simp only[Qar] at this;exact this
  simp only[Qar] at C0;exact fin _ .unk _ _ C0 K5 q
theorem ng8{x:Pce}(h:Psm x)(y:V3):Pok (ub7 x y):=(hf3 h y).p
theorem ng9{x:Pce}(h:Psm x)(y:V3):ub8 x y=true:=(hf3 h y).g
theorem hf4(l:LPq)(c:PLq):(ra0 l c).length<=l.length:=Qjp _ _
theorem Me7{l:LPq}{c q:PLq}(h:q∈ra0 l c):q∈l:=(Qfc.1 h).1
structure Two(j n0 n1:Nat)(e4 e5:List (List b7)):Prop where
 n0:n0=j
 n1:n1=j
 S:∃S:List Bool,S.length=j/\e4=bL tB S
 T:∃T:List Bool,T.length=j/\e5=bL tB T
theorem Two.one(u v:Bool):Two 1 1 1 [[b u]] [[b v]]:=⟨rfl,rfl,⟨[u],rfl,rfl⟩,[v],rfl,rfl⟩
theorem Two.more{j n0 n1:Nat}{e4 e5:List (List b7)}(h:Two j n0 n1 e4 e5)(u v:Bool):Two (j+1) (n0+1) (n1+1) (app e4 [[b u]]) (app e5 [[b v]]):=by
 obtain⟨rfl,rfl,⟨S,h1,rfl⟩,T,h2,rfl⟩:=h;exact⟨rfl,rfl,⟨S++[u],by rw[Qdc,h1];rfl,ra4 tB S [u]⟩,T++[v],by rw[Qdc,h2];rfl,ra4 tB T [v]⟩
theorem Two.rm{j n0 n1:Nat}{e4 e5:List (List b7)}(h:Two j n0 n1 e4 e5)(hj:j<=1000000):(Nat.beq n0 (len e4)&&Nat.ble ((n0+1)*1) room)=true/\(Nat.beq n1 (len e5)&&Nat.ble ((n1+1)*1) room)=true:=by
 obtain⟨rfl,rfl,⟨S,h1,rfl⟩,T,h2,rfl⟩:=h;have r:Nat.ble ((n1+1)*1) room=true:=by rw[Qiy];unfold room;omega
 rw[J2,J2,h1,h2,Qim,r];exact⟨rfl,rfl⟩
section
variable{z w cl cu:LPq}{nm:ByteArray}{wt:List Int}{su to:List Bool}
structure IA(n j:Nat)(s:m9):Prop where
 le:j<=n
 ix:s.G1=(j:Int)
 e6:s.eh6=[]
 ph:(s.ph=0/\j=0)\/(s.ph=1/\Two j s.G8 s.B3 s.eh4 s.eh5)
def EA(n:Nat)(t:Nat)(s:m9):Prop:=t=1\/t=2\/t=3\/t=4\/t=5\/t=6\/t=7\/(t=8/\Two n s.G8 s.B3 s.eh4 s.eh5)
theorem og0(hz:z.length<=1000)(hzl:∀q∈z,q.length<=1000)(hw:w.length<=1000)(hwl:∀q∈w,q.length<=1000)(hc:cl.length<=1000)(hcl:∀q∈cl,q.length<=1000)(hs:su.length=cl.length)(ht:to.length=cl.length) :
  ∃t s,lp (T5 ⟨z,w,nm,cl,wt,su,to,cu,0⟩) ⟨0,0,0,0,[],[],[]⟩=(t,s)/\EA cl.length t s:=by
 refine da0 (step:=T5 ⟨z,w,nm,cl,wt,su,to,cu,0⟩) (mk:=λ_ (s:m9)=>s) cl.length (IA cl.length) (EA cl.length) (by omega)
  (λj s hj hi=>?_) (λj s hj hi=>?_) 0 _ ⟨Qbv _,rfl,rfl,.inl ⟨rfl,rfl⟩⟩
 ·obtain⟨_,h2,h3,h4⟩:=hi;obtain⟨ph,G1,n0,n1,e4,e5,e6⟩:=s
  simp only at h2 h3 h4
  subst h2 h3;have hq:=hcl _ (M1 tLq hj);have hw1:W ((j:Int)+1)=((j+1:Nat):Int):=A5 hj (by omega)
  have k1:inB (j:Int) cl.length=true:=l0 hj;have k2:inB (j:Int) su.length=true:=l0 (by omega)
  have k3:inB (j:Int) to.length=true:=l0 (by omega)
  have m1:=ff9 (l:=[]) (c:=gL tLq cl j) (by simp) (by simp) (by omega)
  have m2:=gf0 (l:=[]) (c:=gL tLq cl j) (by simp) (by simp) (by omega)
  have c2:=je8 (x:=ra0 [] (gL tLq cl j)) (y:=gL tLq cl j) (by omega) (Qai (hf4 _ _) (by simp)) (λq hq=>by have:=Me7 hq;simp at this)
  have a1:=nc5 (c:=gL tLq cl j) (s:=z) (by omega) (by omega) (λq hq=>by have:=hzl q hq;omega)
  have a2:=nc5 (c:=gL tLq cl j) (s:=w) (by omega) (by omega) (λq hq=>by have:=hwl q hq;omega)
  show Nx (T5 ⟨z,w,nm,cl,wt,su,to,cu,0⟩ ⟨ph,(j:Int),n0,n1,e4,e5,[]⟩) _ _
  rcases h4 with⟨rfl,rfl⟩|⟨rfl,h4⟩
  ·show Nx (xa2 Stp.next Stp.exit Stp.fail ⟨z,w,nm,cl,wt,su,to,cu,0⟩ ⟨0,((0:Nat):Int),n0,n1,e4,e5,[]⟩) _ _;simp only[xa2,Int.toNat_natCast,l9,A3,hw1,k1,k2,k3,m1,m2,c2,a1,a2,g7];rw[btD (n8 hj)];have nx:∀u v:Bool,IA cl.length (0+1) ⟨1,((0+1:Nat):Int),1,1,[[b u]],[[b v]],[]⟩:=λu v=>⟨hj,rfl,rfl,.inr ⟨rfl,Two.one u v⟩⟩
   have ex:∀t,t=1\/t=2\/t=3->EA cl.length t ⟨0,((0:Nat):Int),n0,n1,e4,e5,[]⟩:=λt h=>by unfold EA;omega
   repeat' refine Nx.sl (λ_=>?_) (λ_=>?_)
   all_goals first | exact .ex (ex _ (by omega)) | exact .nx ⟨_,rfl,nx _ _⟩
  ·obtain⟨r1,r2⟩:=h4.rm (by omega)
   show Nx (xa3 Stp.next Stp.exit Stp.fail ⟨z,w,nm,cl,wt,su,to,cu,0⟩ ⟨1,(j:Int),n0,n1,e4,e5,[]⟩) _ _;simp only[xa3,Int.toNat_natCast,l9,A3,hw1,k1,k2,k3,m1,m2,c2,a1,a2,r1,r2,g7];rw[btD (n8 hj)];have nx:∀u v:Bool,IA cl.length (j+1) ⟨1,((j+1:Nat):Int),n0+1,n1+1,app e4 [[b u]],app e5 [[b v]],[]⟩:=λu v=>⟨hj,rfl,rfl,.inr ⟨rfl,h4.more u v⟩⟩
   have ex:∀t,t=5\/t=6\/t=7->EA cl.length t ⟨1,(j:Int),n0,n1,e4,e5,[]⟩:=λt h=>by unfold EA;omega
   repeat' refine Nx.sl (λ_=>?_) (λ_=>?_)
   all_goals first | exact .ex (ex _ (by omega)) | exact .nx ⟨_,rfl,nx _ _⟩
 ·have hje:j=cl.length:=by have:=hi.le;omega
  subst hje;obtain⟨_,h2,h3,h4⟩:=hi;obtain⟨ph,G1,n0,n1,e4,e5,e6⟩:=s
  simp only at h2 h3 h4
  subst h2 h3
  rcases h4 with⟨rfl,h5⟩|⟨rfl,h4⟩
  ·refine⟨4,?_,by unfold EA;omega⟩
   show xa2 Stp.next Stp.exit Stp.fail _ _=_;simp only[xa2];rw[bfD (w8 (Qie _))]
  ·refine⟨8,?_,.inr (.inr (.inr (.inr (.inr (.inr (.inr ⟨rfl,h4⟩))))))⟩;show xa3 Stp.next Stp.exit Stp.fail _ _=_;simp only[xa3];rw[bfD (w8 (Qie _))]
structure IB(z:LPq)(n j:Nat)(s:m9):Prop where
 le:j<=n
 ix:s.G1=(j:Int)
 ph:(s.ph=2/\j=0/\s.eh4=cpR z)\/((s.ph=3\/s.ph=4)/\s.eh6=cpR z/\Two j s.G8 s.B3 s.eh4 s.eh5)
def EB(z:LPq)(n:Nat)(t:Nat)(s:m9):Prop:=t=9\/t=10\/t=11\/(t=12/\s.eh4=cpR z)\/t=13\/t=14\/t=15\/t=17\/t=18\/t=19\/((t=16\/t=20)/\s.eh6=cpR z/\Two n s.G8 s.B3 s.eh4 s.eh5)
theorem og1(hz:z.length<=1000)(hzl:∀q∈z,q.length<=1000)(hw:w.length<=1000)(hwl:∀q∈w,q.length<=1000)(hc:cl.length<=1000)(hcl:∀q∈cl,q.length<=1000)(hs:su.length=cl.length)(ht:to.length=cl.length) :
  ∃t s,lp (T5 ⟨z,w,nm,cl,wt,su,to,cu,z.length⟩) ⟨2,0,0,0,cpR z,[],[]⟩=(t,s)/\EB z cl.length t s:=by
 have lc:=xb1.cp z;have le:lsL tLq z.length (λk=>c8 (cpR z) (0+k))=z:=(lc.all rfl).rd
 have lo:okL tLq z.length (λk=>c8 (cpR z) (0+k))=true:=by have:=(lc.all rfl).ok;exact this
 refine da0 (step:=T5 ⟨z,w,nm,cl,wt,su,to,cu,z.length⟩) (mk:=λ_ (s:m9)=>s) cl.length (IB z cl.length) (EB z cl.length) (by omega)
  (λj s hj hi=>?_) (λj s hj hi=>?_) 0 _ ⟨Qbv _,rfl,.inl ⟨rfl,rfl,rfl⟩⟩
 ·obtain⟨_,h2,h4⟩:=hi;obtain⟨ph,G1,n0,n1,e4,e5,e6⟩:=s
  simp only at h2 h4
  subst h2;have hq:=hcl _ (M1 tLq hj);have hw1:W ((j:Int)+1)=((j+1:Nat):Int):=A5 hj (by omega)
  have k1:inB (j:Int) cl.length=true:=l0 hj;have k2:inB (j:Int) su.length=true:=l0 (by omega)
  have k3:inB (j:Int) to.length=true:=l0 (by omega)
  have hzl':∀q∈z,q.length<=1000000:=λq hq=>by have:=hzl q hq;omega
  have m1:=ff9 (l:=z) (c:=gL tLq cl j) (by omega) hzl' (by omega)
  have m2:=gf0 (l:=z) (c:=gL tLq cl j) (by omega) hzl' (by omega)
  have c2:=je8 (x:=ra0 z (gL tLq cl j)) (y:=gL tLq cl j) (by omega) (Qai (hf4 _ _) (by omega)) (λq hq=>hzl' q (Me7 hq))
  have a1:=nc5 (c:=gL tLq cl j) (s:=z) (by omega) (by omega) hzl'
  have a2:=nc5 (c:=gL tLq cl j) (s:=w) (by omega) (by omega) (λq hq=>by have:=hwl q hq;omega)
  show Nx (T5 ⟨z,w,nm,cl,wt,su,to,cu,z.length⟩ ⟨ph,(j:Int),n0,n1,e4,e5,e6⟩) _ _
  rcases h4 with⟨rfl,rfl,rfl⟩|⟨hp,rfl,h4⟩
  ·show Nx (xa4 Stp.next Stp.exit Stp.fail ⟨z,w,nm,cl,wt,su,to,cu,z.length⟩ ⟨2,((0:Nat):Int),n0,n1,cpR z,e5,e6⟩) _ _;simp only[xa4,Int.toNat_natCast,l9,A3,hw1,k1,k2,k3,le,lo,m1,m2,c2,a1,a2,g7];rw[btD (n8 hj)];have nx:∀(q:Nat) (u v:Bool),q=3\/q=4->IB z cl.length (0+1) ⟨q,((0+1:Nat):Int),1,1,[[b u]],[[b v]],cpR z⟩:=λq u v h=>⟨hj,rfl,.inr ⟨h,rfl,Two.one u v⟩⟩
   have ex:∀t,t=9\/t=10\/t=11->EB z cl.length t ⟨2,((0:Nat):Int),n0,n1,cpR z,e5,e6⟩:=λt h=>by unfold EB;omega
   repeat' refine Nx.sl (λ_=>?_) (λ_=>?_)
   all_goals first | exact .ex (ex _ (by omega)) | exact .nx ⟨_,rfl,nx _ _ _ (by omega)⟩
  ·obtain⟨r1,r2⟩:=h4.rm (by omega)
   have nx:∀(q:Nat) (u v:Bool),q=3\/q=4->IB z cl.length (j+1) ⟨q,((j+1:Nat):Int),n0+1,n1+1,app e4 [[b u]],app e5 [[b v]],cpR z⟩:=λq u v h=>⟨hj,rfl,.inr ⟨h,rfl,h4.more u v⟩⟩
   have ex:∀t,t=13\/t=14\/t=15\/t=17\/t=18\/t=19->EB z cl.length t ⟨ph,(j:Int),n0,n1,e4,e5,cpR z⟩:=λt h=>by unfold EB;omega
   rcases hp with rfl|rfl
   ·show Nx (xa5 Stp.next Stp.exit Stp.fail ⟨z,w,nm,cl,wt,su,to,cu,z.length⟩ ⟨3,(j:Int),n0,n1,e4,e5,cpR z⟩) _ _;simp only[xa5,Int.toNat_natCast,l9,A3,hw1,k1,k2,k3,le,lo,m1,m2,c2,a1,a2,r1,r2,g7];rw[btD (n8 hj)]
    repeat' refine Nx.sl (λ_=>?_) (λ_=>?_)
    all_goals first | exact .ex (ex _ (by omega)) | exact .nx ⟨_,rfl,nx _ _ _ (by omega)⟩
   ·show Nx (xa6 Stp.next Stp.exit Stp.fail ⟨z,w,nm,cl,wt,su,to,cu,z.length⟩ ⟨4,(j:Int),n0,n1,e4,e5,cpR z⟩) _ _;simp only[xa6,Int.toNat_natCast,l9,A3,hw1,k1,k2,k3,le,lo,m1,m2,c2,a1,a2,r1,r2,g7];rw[btD (n8 hj)]
    repeat' refine Nx.sl (λ_=>?_) (λ_=>?_)
    all_goals first | exact .ex (ex _ (by omega)) | exact .nx ⟨_,rfl,nx _ _ _ (by omega)⟩
 ·have hje:j=cl.length:=by have:=hi.le;omega
  subst hje;obtain⟨_,h2,h4⟩:=hi;obtain⟨ph,G1,n0,n1,e4,e5,e6⟩:=s
  simp only at h2 h4
  subst h2
  rcases h4 with⟨rfl,h5,rfl⟩|⟨rfl|rfl,rfl,h4⟩
  ·refine⟨12,?_,.inr (.inr (.inr (.inl ⟨rfl,rfl⟩)))⟩;show xa4 Stp.next Stp.exit Stp.fail _ _=_;simp only[xa4];rw[bfD (w8 (Qie _))]
  ·refine⟨16,?_,.inr (.inr (.inr (.inr (.inr (.inr (.inr (.inr (.inr (.inr ⟨.inl rfl,rfl,h4⟩)))))))))⟩;show xa5 Stp.next Stp.exit Stp.fail _ _=_;simp only[xa5];rw[bfD (w8 (Qie _))]
  ·refine⟨20,?_,.inr (.inr (.inr (.inr (.inr (.inr (.inr (.inr (.inr (.inr ⟨.inr rfl,rfl,h4⟩)))))))))⟩;show xa6 Stp.next Stp.exit Stp.fail _ _=_;simp only[xa6];rw[bfD (w8 (Qie _))]
end
theorem ke3{x:Prt}{su to:List Bool}{z w:LPq}(hx:Jok x)(hc:x.cl.length<=1000)(hcl:∀q∈x.cl,q.length<=1000)(hs:su.length=x.cl.length)(ht:to.length=x.cl.length)
  (hz:z.length<=1000) (hzl:∀q∈z,q.length<=1000) (hw:w.length<=1000) (hwl:∀q∈w,q.length<=1000):Rd (two r1O r1I) (Gb3 x ⟨su,to,[]⟩ z w) (λr=>Psm r.1):=by
 have hj:Jok ⟨x.nm,x.cl,x.wt⟩:=⟨hx.cl,hx.wt,hx.pl⟩;have hp:Pok ⟨su,to,[]⟩:=⟨by show su.length<=_;omega,by show to.length<=_;omega,by show 0<=_;omega,by simp⟩
 have f2:=We5 hj;have f4:=We3 (x:=⟨x.nm,x.cl,x.wt⟩) hp;have hzl':∀q∈z,q.length<=1000000:=λq hq=>by have:=hzl q hq;omega
 have hwl':∀q∈w,q.length<=1000000:=λq hq=>by have:=hwl q hq;omega
 have g1:=ad5 (s:=z) (by omega) hzl'
 have g2:=ad5 (s:=w) (by omega) hwl'
 have cu:=Fd8 (l:=[]) (by simp) (by simp)
 have cz:=Fd8 (l:=z) (by omega) hzl'
 rw[if_pos rfl] at cu;have no:∀n:Int,Rd (two r1O r1I) (some (.tup [.agg [.v (.slice none 0 0),.v (.slice none 0 0),.v (.slice none 0 0)],i n],[])) (λr=>Psm r.1):=λn =>
  ⟨_,_,rfl,Ag8 n,⟨by show 0<=_;omega,by show 0<=_;omega,by show 0<=_;omega,by intro q hq;cases hq⟩⟩
 have fin : ∀ (n0 n1 : Nat) (e4 e5 : List (List b7)) (C : b7) (cu : LPq) (n : Int), Two x.cl.length n0 n1 e4 e5 → CR tLq C cu → cu.length ≤ 1000 → (∀ q ∈ cu, q.length ≤ 1000) →
   Rd (two r1O r1I) (some (.tup [.agg [.tree 1 n0 (λk=>c8 e4 (0+k)),.tree 1 n1 (λk=>c8 e5 (0+k)),C],i n],[])) (λr=>Psm r.1):=λn0 n1 e4 e5 C cu n h hC k1 k2=>by
  obtain⟨rfl,rfl,⟨S,s1,rfl⟩,T,t1,rfl⟩:=h;exact⟨_,_,rfl,ve2 n (.bL tB S s1.symm) (.bL tB T t1.symm) hC,⟨by show S.length<=_;omega,by show T.length<=_;omega,k1,k2⟩⟩
 have n11:Nat.beq 1 1=true:=rfl;have n21:Nat.beq 2 1=false:=rfl;have n22:Nat.beq 2 2=true:=rfl;unfold Gb3;simp only[l9,A3,s7,Qka,g7,f2,f4,g1,g2,cu,cz,n11];refine Qma (λ_=>no _) λ_=>Qma (λ_=>no _) λhf=>Qma (λ_=>Qma (λ_=>no _) λ_=>Qma (λ_=>no _) λ_=>?_) λh3=>?_
 ·have nb:∀a c:Nat,Nat.beq a c=(a==c):=λa c=>by rw[Bool.eq_iff_iff,Nat.beq_eq,beq_iff_eq]
  by_cases hz0:z=[]
  ·subst hz0;obtain⟨t,s,h1,h2⟩:=og0 (z:=[]) (w:=w) (cl:=x.cl) (cu:=[]) (nm:=x.nm) (wt:=x.wt) hz hzl hw hwl hc hcl hs ht;simp only[if_pos,h1];unfold EA at h2
   rcases h2 with rfl|rfl|rfl|rfl|rfl|rfl|rfl|⟨rfl,h2⟩
   all_goals simp only[nb,Nat.reduceBEq,g7,A7]
   all_goals first | exact no _ | exact fin _ _ _ _ _ [] _ h2 (.nil _) (by simp) (by simp)
  ·obtain⟨t,s,h1,h2⟩:=og1 (z:=z) (w:=w) (cl:=x.cl) (cu:=[]) (nm:=x.nm) (wt:=x.wt) hz hzl hw hwl hc hcl hs ht;have tk:J6 (s9 (cpR z) 0) z.length=cpR z:=by
    rw[I9,J7,Qic,Qip];rw[<- z6,uc0];exact Qaf _
   have zl:Nat.beq z.length 0=false:=by rw[nb,beq_eq_false_iff_ne];exact λe=>hz0 (Qbf e)
   have zr:Nat.ble (z.length*24) room=true:=by rw[Qiy];unfold room;omega
   simp only[if_neg hz0,tk,uc0,h1,zl,zr,n21,n22,g7,A7];unfold EB at h2;have C:=CR.cp z rfl
   rcases h2 with rfl|rfl|rfl|⟨rfl,h2⟩|rfl|rfl|rfl|rfl|rfl|rfl|⟨rfl|rfl,h3,h2⟩
   all_goals simp only[nb,Nat.reduceBEq,g7,A7]
   all_goals first | exact no _ | (rw[h3];exact fin _ _ _ _ _ z _ h2 C hz hzl) | skip
   all_goals (rw[h2];exact⟨_,_,rfl,ve2 _ (.nil tB) (.nil tB) C,⟨by show 0<=_;omega,by show 0<=_;omega,hz,hzl⟩⟩)
 ·rw[show (Da4 z != 0)=true by simp[bne,h3]]
  exact no _
theorem If0{x:Prt}{su to:List Bool}{z w:LPq}(hx:Jok x)(hc:x.cl.length<=1000)(hcl:∀q∈x.cl,q.length<=1000)(hs:su.length=x.cl.length)(ht:to.length=x.cl.length)
  (hz:z.length<=1000) (hzl:∀q∈z,q.length<=1000) (hw:w.length<=1000) (hwl:∀q∈w,q.length<=1000):Psm (cc3 x ⟨su,to,[]⟩ z w).1/\Lc2 x ⟨su,to,[]⟩ z w=true :=
 ⟨(ke3 hx hc hcl hs ht hz hzl hw hwl).p,(ke3 hx hc hcl hs ht hz hzl hw hwl).g⟩
structure xe7 where
 bs5:Bool
 (Bb1 pg8:List Int)
 (pg2 pg3 pg4 pg5:List (List Int))
 (Dg3 Dg4 Dg5 Dg6 Cg4 Cg5:Int)
 Pb5:ByteArray
 pg6:LPq
 pg9:List Int
 nd1:ByteArray
 pg7:LPq
 qg0:List Int
 xe5:ByteArray
 O3:Nat
 Dg7:Nat->List b7
structure Bc8 where
 ph:Nat
 is8:Int
 B3:Nat
 eh4:List (List b7)
theorem hf5(x:Cse):Rd (one r1J) (Aa8 x) (λr=>r=Ab9 ⟨x.p0,x.p1⟩):=by
 unfold Aa8;simp only[l9,A3,Qka,ng5,g7];exact⟨_,_,rfl,Xe7 (.eL tLq _) (.eL tI _),rfl⟩
theorem og2(x:Cse):ub9 x=Ab9 ⟨x.p0,x.p1⟩:=(hf5 x).p
theorem og3(x:Cse):vb0 x=true:=(hf5 x).g
theorem xb1.ls{E:List (List b7)}{l:LPq}(h:xb1 E l){n:Nat}(hn:n=l.length):lsL tLq n (λk=>c8 E (0+k))=l/\okL tLq n (λk=>c8 E (0+k))=true:=by
 have c:=h.all hn;refine⟨c.rd,?_⟩
 have:=c.ok
 exact this
theorem xb1.app{E:List (List b7)}{l:LPq}(h:xb1 E l){r:b7}{c:PLq}(h1:tLq.rd [r]=c)(h2:tLq.ok [r]=true):xb1 (Go.Ev.app E [[r]]) (l++[c]):=by
 have hE:E.length=l.length:=by rw[<- z6];exact h.n
 refine⟨by rw[K6,z6,Qdc,Qdc,hE];rfl,λk hk=>?_⟩
 rw[Qdc,List.length_singleton] at hk;by_cases e:k<l.length
 ·obtain⟨r',g1,g2,g3⟩:=h.r k e;refine⟨r',?_,by rw[md8 _ _ _ e];exact g2,g3⟩
  rw[<- g1];unfold c8;rw[K6,F7,F7,Qbb (by omega)]
 ·have:k=l.length:=by omega
  subst this;refine⟨r,?_,by rw[we2];exact h1,h2⟩
  unfold c8;rw[K6,F7,<- hE,Qba (Qaf _),Nat.sub_self];rfl
def sm6(l:LPq)(j:Nat):LPq:=(l.take j).map (·.take 6)
structure RCk(l:LPq)(j:Nat)(s:Bc8):Prop where
 le:j<=l.length
 j7:j<=17
 ph:s.ph=if j=0 then 0 else 1
 ix:s.is8=(j:Int)
 n:s.B3=j
 e:xb1 s.eh4 (sm6 l j)
theorem hf6{x:Prt}(h:Jok x):Pok (qf6 x):=⟨by show (List.replicate x.cl.length false).length<=_;rw[Qbn];exact h.cl,by show (List.replicate x.cl.length false).length<=_;rw[Qbn];exact h.cl,by show 0<=_;omega,by intro q hq;cases hq⟩
structure Ct(l:LPq):Prop where
 c:∀q∈l,chk q=0
 n:∀q∈l,6<=q.length/\q.length<=8
theorem Ct.app{l:LPq}(h:Ct l){c:PLq}(h1:chk c=0)(h2:6<=c.length/\c.length<=8):Ct (l++[c]) :=
 ⟨λq hq=>by rcases Qis.1 hq with hq | hq;exact h.c q hq;rw[Qla.1 hq];exact h1,λq hq=>by rcases Qis.1 hq with hq | hq;exact h.n q hq;rw[Qla.1 hq];exact h2⟩
structure RCu(l:List (List Int))(j:Nat)(s:O1)(O:LPq):Prop where
 le:j<=l.length
 j4:j<=4
 ix:s.is6=(j:Int)
 ph:s.ph=phL O
 n:s.ns5=O.length
 e:s.eh1=cpR O
 l:O.length=j
 t:Ct O
theorem rf5{x:List (List Int)}{y:Prt}(m:Mp y) :
  ∃t s O,lp (jb0 ⟨x,y.nm,y.cl,y.wt⟩) ⟨0,0,0,[]⟩=(t,s)/\(∃j,RCu x j s O)/\((phL O=0/\(t=1\/t=2))\/(phL O=1/\(t=3\/t=4))):=by
 suffices key:∃t s,lp (jb0 ⟨x,y.nm,y.cl,y.wt⟩) ⟨0,0,0,[]⟩=(t,s)/\∃O,(∃j,RCu x j s O)/\((phL O=0/\(t=1\/t=2))\/(phL O=1/\(t=3\/t=4))) by
  obtain⟨t,s,h1,O,h2⟩:=key;exact⟨t,s,O,h1,h2⟩
 have hn1:=m.c.n1;have hn2:=m.c.n2;refine da0 (step:=jb0 ⟨x,y.nm,y.cl,y.wt⟩) (mk:=λ_ (s:O1)=>s) 5 (λj s=>∃O,RCu x j s O) (λt s=>∃O,(∃j,RCu x j s O)/\((phL O=0/\(t=1\/t=2))\/(phL O=1/\(t=3\/t=4)))) (by omega)
  (λj s hj hi=>?_) (λj s hj hi=>by obtain⟨O,hi⟩:=hi;exact absurd hi.j4 (by omega)) 0 _ ⟨[],Qbv _,by omega,rfl,rfl,rfl,rfl,rfl,⟨by simp,by simp⟩⟩
 obtain⟨O,hi⟩:=hi;have hi':=hi;obtain⟨h1,h2,h3,h4,h5,h6,h7,h8⟩:=hi;obtain⟨ph,is,ns,eh⟩:=s
 simp only at h3 h4 h5 h6
 subst h3 h4 h5 h6;by_cases hlt:j<x.length
 ·by_cases h4:j<4
  ·obtain⟨v1,d1,e1,p1,q1,r1,r1'⟩:=pa6 4 (gL (tLs tI) x j) 0 (by decide) (by decide) (by decide) (by decide)
   obtain⟨v2,d2,e2,p2,q2,r2,r2'⟩:=pa6 (y.cl.length:Int) (gL (tLs tI) x j) d1 (by omega) (by omega) (by omega) (by omega)
   obtain⟨v3,d3,e3,p3,q3,r3,r3'⟩:=pa6 2 (gL (tLs tI) x j) d2 (by omega) (by omega) (by decide) (by decide)
   obtain⟨v4,d4,e4,p4,q4,r4,r4'⟩:=pa6 2 (gL (tLs tI) x j) d3 (by omega) (by omega) (by decide) (by decide)
   obtain⟨v5,d5,e5,p5,q5,r5,r5'⟩:=pa6 14 (gL (tLs tI) x j) d2 (by omega) (by omega) (by decide) (by decide)
   obtain⟨v6,d6,e6,p6,q6,r6,r6'⟩:=pa6 3 (gL (tLs tI) x j) d5 (by omega) (by omega) (by decide) (by decide)
   obtain⟨v7,d7,e7,p7,q7,r7,r7'⟩:=pa6 2 (gL (tLs tI) x j) d6 (by omega) (by omega) (by decide) (by decide)
   obtain⟨v8,d8,e8,p8,q8,r8,r8'⟩:=pa6 6 (gL (tLs tI) x j) d7 (by omega) (by omega) (by decide) (by decide)
   obtain⟨v9,d9,e9,p9,q9,r9,r9'⟩:=pa6 6 (gL (tLs tI) x j) d8 (by omega) (by omega) (by decide) (by decide)
   obtain⟨va,da,ea,pa,qa,ra,ra'⟩:=pa6 6 (gL (tLs tI) x j) d9 (by omega) (by omega) (by decide) (by decide)
   obtain⟨k,rfl⟩:∃k:Nat,v2=(k:Int):=⟨v2.toNat,by omega⟩
   have hk:k<y.cl.length:=by omega
   have hmem:=M1 tLq hk;have hck:chk (gL tLq y.cl k)=0:=beq_iff_eq.1 (Rc5.1 (m.c.f _ hmem)).1;obtain⟨l6,l7⟩:=m.c.k _ hmem;have hw1:W ((j:Int)+1)=((j+1:Nat):Int):=A5 hj (by omega)
   have rm:∀c:PLq,c.length<=100->(Nat.beq c.length c.length&&Nat.ble ((c.length+1)*32) room)=true:=λc hc=>by rw[Qim,Qke,Qiy];unfold room;omega
   have rm2:∀c:PLq,c.length<=100->Nat.ble (c.length*32) room=true:=λc hc=>by rw[Qiy];unfold room;omega
   have ro:=Wb1 O (by omega)
   have rm3:Nat.ble (((gL tLq y.cl k).length+1)*32) room=true:=by rw[Qiy];unfold room;omega
   have fin:∀c:PLq,chk c=0->6<=c.length/\c.length<=8->RCu x (j+1) ⟨1,((j+1:Nat):Int),O.length+1,cpR (O++[c])⟩ (O++[c]):=λc c1 c2 =>
    ⟨hlt,by omega,rfl,by rw[tb9],by rw[Qdc];rfl,rfl,by rw[Qdc,h7];rfl,h8.app c1 c2⟩
   -- the cells that may come
   have hw2:W (2*v3)=2*v3:=ia9 (by omega) (by omega)
   have hw3:W (1-2*v3)=1-2*v3:=ia9 (by omega) (by omega)
   have hw4:W (1+v4)=1+v4:=ia9 (by omega) (by omega)
   have hv3:v3=0\/v3=1:=by omega
   obtain⟨B,hB,hB1,hB2⟩:∃B:Int,W ((1-2*v3)*(1+v4))=B/\-2<=B/\B<=2:=by
    rcases hv3 with rfl|rfl
    ·exact⟨1+v4,by rw[ia9 (by omega) (by omega)];omega,by omega,by omega⟩
    ·exact⟨-(1+v4),by rw[ia9 (by omega) (by omega)];omega,by omega,by omega⟩
   have okn:okp ⟨⟨0,0,1-2*v3⟩,B⟩=true:=by
    rcases hv3 with rfl|rfl
    ·exact we1 (by decide) (by decide) (by omega) (by omega)
    ·exact we1 (by decide) (by decide) (by omega) (by omega)
   have a1:app (bL tP (gL tLq y.cl k)) [[i 0,i 0,i (1-2*v3),i B]]=bL tP (gL tLq y.cl k++[⟨⟨0,0,1-2*v3⟩,B⟩]):=we3 _ ⟨⟨0,0,1-2*v3⟩,B⟩;have ln:∀p:Pln,(gL tLq y.cl k).length+1=(gL tLq y.cl k++[p]).length:=λp=>by rw[Qdc];rfl
   have c1:∀p:Pln,b7.tree 4 ((gL tLq y.cl k).length+1) (λj=>c8 (bL tP (gL tLq y.cl k++[p])) (0+j))=cpA (gL tLq y.cl k++[p]):=λp=>by rw[ln p];exact Lc4 _
   have c0:=Lc4 (gL tLq y.cl k);have ckn:chk (gL tLq y.cl k++[⟨⟨0,0,1-2*v3⟩,B⟩])=0:=by
    rw[Fb3] at hck ⊢;refine⟨by rw[Qdc,List.length_singleton];omega,λq hq=>?_⟩
    rcases Qis.1 hq with hq|hq
    ·exact hck.2 q hq
    ·rw[Qla.1 hq];exact okn
   have u1:W (v5-7)=v5-7:=ia9 (by omega) (by omega)
   have u2:W (v6-1)=v6-1:=ia9 (by omega) (by omega)
   have u3:W (v7-1)=v7-1:=ia9 (by omega) (by omega)
   have u4:W (v5-7+1)=v5-7+1:=ia9 (by omega) (by omega)
   have u5:W (v5-7+1+v8)=v5-7+1+v8:=ia9 (by omega) (by omega)
   have u6:W (v6-1+2)=v6-1+2:=ia9 (by omega) (by omega)
   have u7:W (v6-1+2+v9)=v6-1+2+v9:=ia9 (by omega) (by omega)
   have u8:W (v7-1+2)=v7-1+2:=ia9 (by omega) (by omega)
   have u9:W (v7-1+2+va)=v7-1+2+va:=ia9 (by omega) (by omega)
   have ua:W (0-(v5-7))=-(v5-7):=by rw[ia9 (by omega) (by omega)];omega
   have ub:W (0-(v6-1))=-(v6-1):=by rw[ia9 (by omega) (by omega)];omega
   have uc:W (0-(v7-1))=-(v7-1):=by rw[ia9 (by omega) (by omega)];omega
   have bc:=Nc2 (v5-7) (v6-1) (v7-1) (v5-7+1+v8) (v6-1+2+v9) (v7-1+2+va);have bk:chk (bx (v5-7) (v6-1) (v7-1) (v5-7+1+v8) (v6-1+2+v9) (v7-1+2+va))=0:=beq_iff_eq.1 (ud6 (by omega) (by omega) (by omega) (by omega) (by omega) (by omega))
   simp only[Qar] at c0 c1 bc;have hkin:inB (k:Int) y.cl.length=true:=l0 hk;have q11:Nat.beq 1 1=true:=rfl
   -- one round
   have fin':∀(c:PLq),chk c=0->6<=c.length/\c.length<=8->∀s',s'=(⟨1,((j+1:Nat):Int),O.length+1,cpR (O++[c])⟩:O1)->∃s,(Stp.next s':Stp O1)=.next s/\∃a',s=a'/\∃O,RCu x (j+1) a' O:=λc c1 c2 s' e=>⟨_,rfl,s',rfl,O++[c],by rw[e];exact fin c c1 c2⟩
   refine .inr ?_
   rcases I6 O with⟨hz,hO⟩|h1
   ·rw[hz];show ∃s,ja8 Stp.next Stp.exit Stp.fail _ _=.next s/\_;simp only[ja8,l9,s7,Qka,e1,e2,e3,e4,e5,e6,e7,e8,e9,ea,q11,g7,Int.toNat_natCast,hkin,ra5,J2,nc6,Qar,rm _ (show (gL tLq y.cl k).length<=100 by omega),rm2 _ (show (gL tLq y.cl k).length<=100 by omega),Qim,Qke,
     hw1,hw2,hw3,hw4,hB,a1,c1,c0,Pb3,u1,u2,u3,u4,u5,u6,u7,u8,u9,ua,ub,uc,bc,l0 hlt]
    rw[btD (n8 hlt),btD (by omega)]
    subst hO;have f1:=fin' _ ckn ⟨by rw[<- ln];omega,by rw[<- ln];omega⟩
    have f2:=fin' _ hck ⟨by omega,by omega⟩
    have f3:=fin' _ bk ⟨by rw[gc3];decide,by rw[gc3];decide⟩
    by_cases k1:v1=1
    ·subst k1;simp only[beq_self_eq_true,show ((1:Int)==2)=false from rfl,rm3,g7,A7]
     exact f1 _ rfl
    ·rw[show (v1==1)=false by simpa using k1,A7]
     by_cases k2:v1=2
     ·subst k2;simp only[beq_self_eq_true,g7];exact f3 _ rfl
     ·rw[show (v1==2)=false by simpa using k2,A7]
      exact f2 _ rfl
   ·rw[h1];show ∃s,ja9 Stp.next Stp.exit Stp.fail _ _=.next s/\_;simp only[ja9,l9,s7,Qka,e1,e2,e3,e4,e5,e6,e7,e8,e9,ea,q11,g7,Int.toNat_natCast,hkin,ra5,J2,nc6,Qar,rm _ (show (gL tLq y.cl k).length<=100 by omega),rm2 _ (show (gL tLq y.cl k).length<=100 by omega),Qim,Qke,
     hw1,hw2,hw3,hw4,hB,a1,c1,c0,Pb3,u1,u2,u3,u4,u5,u6,u7,u8,u9,ua,ub,uc,bc,l0 hlt,ro,bb4]
    rw[btD (n8 hlt),btD (by omega)]
    have f1:=fin' _ ckn ⟨by rw[<- ln];omega,by rw[<- ln];omega⟩
    have f2:=fin' _ hck ⟨by omega,by omega⟩
    have f3:=fin' _ bk ⟨by rw[gc3];decide,by rw[gc3];decide⟩
    by_cases k1:v1=1
    ·subst k1;simp only[beq_self_eq_true,show ((1:Int)==2)=false from rfl,rm3,g7,A7]
     exact f1 _ rfl
    ·rw[show (v1==1)=false by simpa using k1,A7]
     by_cases k2:v1=2
     ·subst k2;simp only[beq_self_eq_true,g7];exact f3 _ rfl
     ·rw[show (v1==2)=false by simpa using k2,A7]
      exact f2 _ rfl
  ·rcases I6 O with⟨hz,hO⟩|h1
   ·refine .inl ⟨1,?_,O,⟨j,hi'⟩,.inl ⟨hz,.inl rfl⟩⟩;rw[hz];show ja8 Stp.next Stp.exit Stp.fail _ _=_;simp only[ja8];rw[btD (n8 hlt),bfD (by omega)]
   ·refine .inl ⟨3,?_,O,⟨j,hi'⟩,.inr ⟨h1,.inl rfl⟩⟩;rw[h1];show ja9 Stp.next Stp.exit Stp.fail _ _=_;simp only[ja9];rw[btD (n8 hlt),bfD (by omega)]
 ·rcases I6 O with⟨hz,hO⟩|h1
  ·refine .inl ⟨2,?_,O,⟨j,hi'⟩,.inl ⟨hz,.inr rfl⟩⟩;rw[hz];show ja8 Stp.next Stp.exit Stp.fail _ _=_;simp only[ja8];rw[bfD (by omega)]
  ·refine .inl ⟨4,?_,O,⟨j,hi'⟩,.inr ⟨h1,.inr rfl⟩⟩;rw[h1];show ja9 Stp.next Stp.exit Stp.fail _ _=_;simp only[ja9];rw[bfD (by omega)]
theorem hf7{x:List (List Int)}{y:Prt}(m:Mp y):Rd (one (r1L tLq)) (Xb1 x y) (λr=>r.length<=x.length/\Ct r):=by
 obtain⟨t,s,O,h1,⟨j,h2⟩,h3⟩:=rf5 (x:=x) m;unfold Xb1;simp only[l9,s7,Qka,g7,h1];have hl:O.length<=x.length:=by rw[h2.l];exact h2.le
 rcases h3 with⟨hz,ht⟩|⟨hz,ht⟩
 ·have hO:=Tf6 hz
  rcases ht with rfl|rfl<;>exact⟨_,[],rfl,zd3 _,by simp,⟨by simp,by simp⟩⟩
 ·rw[h2.n,h2.e]
  rcases ht with rfl|rfl<;>exact⟨_,O,rfl,Hf1 O,hl,h2.t⟩
theorem If1{x:List (List Int)}{y:Prt}(m:Mp y):(La8 x y).length<=x.length/\Ct (La8 x y):=(hf7 m).p
theorem If2{x:List (List Int)}{y:Prt}(m:Mp y):uc8 x y=true:=(hf7 (x:=x) m).g
theorem If3(x:List (List Int)):Rd (one (r1L (tLs tI))) (Gb8 x) (λr=>r=x.take 3):=by
 have hm:(if 3<(x.length:Int) then 3 else (x.length:Int))=((min x.length 3:Nat):Int):=by split<;>omega
 have hin:inB ((min x.length 3:Nat):Int) (x.length+1)=true:=l0 (by omega)
 obtain⟨h1,h2⟩:=Ke1 (tLs tI) x (min x.length 3) (by omega)
 have ht:x.take (min x.length 3)=x.take 3:=by rw[List.take_eq_take_iff];omega
 rw[ht] at h1;unfold Gb8;simp only[hm,hin,g7,Int.toNat_natCast];refine⟨_,x.take 3,rfl,?_,rfl⟩;show Bool.rec (motive:=λ_=>Option (List (List Int))) none (some (lsL (tLs tI) (min x.length 3-0) λk=>(λk=>(tLs tI).row (gL (tLs tI) x k)) (0+k))) (Bool.and (Nat.beq 1 1) (okL (tLs tI) (min x.length 3-0) λk=>(λk=>(tLs tI).row (gL (tLs tI) x k)) (0+k)))=_
 rw[h1,h2];rfl
theorem Bg1(x:List (List Int)):cc7 x=x.take 3:=(If3 x).p
theorem Bg2(x:List (List Int)):cc8 x=true:=(If3 x).g
theorem we4{α β:Type}{f:Nat}{c:Cod α}{d:Cod β}{k k':α->β->DT (b7×List c7)}(h:l8 prog G f (Z7 c d k))(hk:∀a b r,(k' a b).run=some r->(k a b).run=some r):l8 prog G f (Z7 c d k'):=h.le λargs blks r hr=>by
 unfold Z7 at hr ⊢
 split at hr
 ·obtain⟨a,h1,hr⟩:=K4 hr;obtain⟨b,h2,hr⟩:=K4 hr;obtain⟨g1,hr⟩:=DT.run_guard_some hr;obtain⟨g2,hr⟩:=DT.run_guard_some hr;simp only[h1,h2,onO,g1,g2];exact hk a b r hr
 ·cases hr
def fN{α:Type}(n:Nat)(f:Nat->α):α:=Nat.rec (motive:=λ_=>α) (f 0) (λk _=>f (Nat.succ k)) n
theorem bg0{α:Type}(n:Nat)(f:Nat->α):fN n f=f n:=by cases n<;>rfl
def fI{α:Type}(x:Int)(f:Int->α):α:=Int.rec (motive:=λ_=>α) (λn=>fN n λn=>f (.ofNat n)) (λn=>fN n λn=>f (.negSucc n)) x
theorem If4{α:Type}(x:Int)(f:Int->α):fI x f=f x:=by
 cases x with
 |ofNat n=>exact bg0 n λn=>f (.ofNat n)
 |negSucc n=>exact bg0 n λn=>f (.negSucc n)
def fP{α:Type}(p:Pln)(f:Pln->α):α:=fI p.n.x λx=>fI p.n.y λy=>fI p.n.z λz=>fI p.b λb=>f ⟨⟨x,y,z⟩,b⟩
theorem Bg3{α:Type}(p:Pln)(f:Pln->α):fP p f=f p:=by unfold fP;simp only[If4]
def fL{α:Type}(l:PLq):(PLq->α)->α:=List.rec (motive:=λ_=>(PLq->α)->α) (λf=>f []) (λp _ ih f=>fP p λp=>ih λl=>f (p::l)) l
theorem zd7{α:Type}(l:PLq)(f:PLq->α):fL l f=f l:=by
 induction l generalizing f with
 |nil=>rfl
 |cons p l ih=>exact (Bg3 p λp=>fL l λl=>f (p::l)).trans (ih λl=>f (p::l))
def fLL{α:Type}(l:LPq):(LPq->α)->α:=List.rec (motive:=λ_=>(LPq->α)->α) (λf=>f []) (λp _ ih f=>fL p λp=>ih λl=>f (p::l)) l
theorem we5{α:Type}(l:LPq)(f:LPq->α):fLL l f=f l:=by
 induction l generalizing f with
 |nil=>rfl
 |cons p l ih=>exact (zd7 p λp=>fLL l λl=>f (p::l)).trans (ih λl=>f (p::l))
def Fd9:Sum:=S7 (M3 tP) λl=>fL l λl=>.guard (Nat.ble l.length 1000000) (.ret ((one r1I).enc (chk l),[]))
theorem ud7:l8 prog G 73 Fd9:=Rc3 ec8 λl r h=>by
 rw[zd7] at h;obtain⟨hg,h⟩:=DT.run_guard_some h;have hl:=Qae hg;rw[Fd6 l (by omega),se2 l (by omega)];exact h
def we6:Sum:=S7 (M3 tP) λl=>fL l λl=>.guard (Nat.ble l.length 1000000) (.ret ((one r1B).enc (ful l),[]))
theorem Vd1:l8 prog G 39 we6:=Rc3 sb4 λl r h=>by
 rw[zd7] at h;obtain⟨hg,h⟩:=DT.run_guard_some h;have hl:=Qae hg;rw[Od8 (by omega),Od9 (by omega)];exact h
def we7:Sum:=Z7 (M3 tP) (M3 tP) λl m=>fL l λl=>fL m λm=>.guard (Nat.ble (l.length+m.length) 1000000) (.ret ((one r1B).enc (apart l m),[]))
theorem ke4:l8 prog G 28 we7:=we4 Vc8 λl m r h=>by
 rw[zd7,zd7] at h;obtain⟨hg,h⟩:=DT.run_guard_some h;have hl:=Qae hg;rw[df0 (by omega) (by omega),df1 (by omega) (by omega)];exact h
def Xe9:Sum:=S7 (M3 tP) λl=>fL l λl=>.guard (Nat.ble l.length 1000000) (.ret ((one (r1L tP)).enc (Gf1 l),[]))
theorem Me8:l8 prog G 87 Xe9:=Rc3 Yd6 λl r h=>by
 rw[zd7] at h;obtain⟨hg,h⟩:=DT.run_guard_some h;have hl:=Qae hg;rw[<- mg4] at h;unfold kd1 kd0;rw[decide_eq_true hl];exact h
def bg1:Sum:=Ca0 (En oa5) Pf3
theorem Uf6:l8 prog G 79 bg1:=bd b79 nb0
def wt:List (Nat×Sum):=[(39,we6),(87,Xe9),(28,we7),(134,id5),(79,bg1),(112,Wc1)]
theorem wto:A4 prog G wt:=⟨Vd1,Me8,ke4,Xd9,Uf6,Pd6,trivial⟩
def bg2:Sum:=ba9 (En [(73,Fd9)]) vg4
def Bg4:Sum:=Ca0 (En wt) vg5
def bg3:Sum:=ba9 (En [(73,Fd9),(86,bg2),(39,we6),(87,Xe9),(88,Bg4)]) vg0
def bg4:Sum:=ba9 (En [(66,bg3)]) tg3
theorem Uf7:l8 prog G 86 bg2:=bd b86 ⟨ud7,trivial⟩
theorem og4:l8 prog G 88 Bg4:=bd b88 wto
theorem Uf8:l8 prog G 66 bg3:=bd b66 ⟨ud7,Uf7,Vd1,Me8,og4,trivial⟩
theorem Uf9:l8 prog G 29 bg4:=bd b29 ⟨Uf8,trivial⟩
def hf8:Sum:=Z7 (M3 tP) (M3 tLq) λl m=>fL l λl=>fLL m λm=>.guard (Nat.ble (l.length+m.length) 1000000&&m.all λq=>Nat.ble q.length 1000000) (.ret ((one r1B).enc (La2 l m),[]))
theorem we8:l8 prog G 27 hf8:=we4 Vb1 λl m r h=>by
 rw[zd7,we5] at h;obtain⟨hg,h⟩:=DT.run_guard_some h;obtain⟨hg,hq⟩:=Qld.1 hg;have hl:=Qae hg;have hq:∀q∈m,q.length<=1000000:=λq h=>Qae (Qcc.1 hq q h)
 rw[Rd2 (by omega) (by omega) hq,Rd3 (by omega) (by omega) hq];exact h
def Bg5:Sum:=ba9 (En []) tg7
theorem og5:l8 prog G 37 Bg5:=bd b37 trivial
def bg5:Sum:=ba9 (En [(37,Bg5)]) ig2
theorem Vf0:l8 prog G 69 bg5:=bd b69 ⟨og5,trivial⟩
def bg6:Sum:=ba9 (En [(69,bg5)]) tg8
theorem Vf1:l8 prog G 38 bg6:=bd b38 ⟨Vf0,trivial⟩
def If5:Sum:=ba9 (En [(38,bg6),(39,we6),(27,hf8)]) hg5
theorem hf9:l8 prog G 12 If5:=bd b12 ⟨Vf1,Vd1,we8,trivial⟩
def If6:Sum:=ba9 (En [(73,Fd9)]) hg8
theorem if0:l8 prog G 45 If6:=bd b45 ⟨ud7,trivial⟩
def if1:Sum:=ba9 (En [(12,If5),(45,If6)]) tg9
theorem we9:l8 prog G 44 if1:=bd b44 ⟨hf9,if0,trivial⟩
def If7:Sum:=Ca0 (En [(74,Xa7)]) ug0
theorem If8:l8 prog G 46 If7:=bd b46 ⟨Bc2,trivial⟩
def bg7:Sum:=ba9 (En []) ug1
theorem Vf2:l8 prog G 47 bg7:=bd b47 trivial
def bg8:Sum:=ba9 (En []) vg2
theorem Vf3:l8 prog G 75 bg8:=bd b75 trivial
def If9:Sum:=ba9 (En [(75,bg8)]) hg9
theorem if2:l8 prog G 48 If9:=bd b48 ⟨Vf3,trivial⟩
def bg9:Sum:=ba9 (En [(28,we7)]) ug2
theorem Vf4:l8 prog G 50 bg9:=bd b50 ⟨ke4,trivial⟩
def cg0:Sum:=ba9 (En []) ug9
theorem Vf5:l8 prog G 60 cg0:=bd b60 trivial
def Ye0:Sum:=ba9 (En [(50,bg9),(60,cg0)]) ig0
theorem Me9:l8 prog G 49 Ye0:=bd b49 ⟨Vf4,Vf5,trivial⟩
def Ne0:Sum:=Ca0 (En [(44,if1),(46,If7),(45,If6),(47,bg7),(48,If9),(49,Ye0),(29,bg4),(27,hf8)]) sg8
theorem Vf6:l8 prog G 19 Ne0:=bd b19 ⟨we9,If8,if0,Vf2,if2,Me9,Uf9,we8,trivial⟩
def fB{α:Type}(x:Bool)(f:Bool->α):α:=Bool.rec (motive:=λ_=>α) (f false) (f true) x
theorem Bg6{α:Type}(x:Bool)(f:Bool->α):fB x f=f x:=by cases x<;>rfl
def fZ{α β:Type}(h:β->(β->α)->α)(l:List β):(List β->α)->α:=List.rec (motive:=λ_=>(List β->α)->α) (λf=>f []) (λp _ ih f=>h p λp=>ih λl=>f (p::l)) l
theorem cg1{α β:Type}{h:β->(β->α)->α}(hh:∀x f,h x f=f x)(l:List β)(f:List β->α):fZ h l f=f l:=by
 induction l generalizing f with
 |nil=>rfl
 |cons p l ih=>exact (hh p λp=>fZ h l λl=>f (p::l)).trans (ih λl=>f (p::l))
def fJ{α:Type}(x:Prt)(f:Prt->α):α:=fLL x.cl λc=>fZ fI x.wt λw=>f ⟨x.nm,c,w⟩
theorem Bg7{α:Type}(x:Prt)(f:Prt->α):fJ x f=f x:=by unfold fJ;simp only[we5,cg1 If4]
def fO{α:Type}(x:Pce)(f:Pce->α):α:=fZ fB x.su λa=>fZ fB x.to λc=>fLL x.cu λd=>f ⟨a,c,d⟩
theorem cg2{α:Type}(x:Pce)(f:Pce->α):fO x f=f x:=by unfold fO;simp only[we5,cg1 Bg6]
def frc{ρ:Type}(R:RR ρ)(F:ρ->(ρ->DT (b7×List c7))->DT (b7×List c7))(o:ROq):DT (b7×List c7) :=
 Option.rec (motive:=λ_=>DT (b7×List c7)) .fail (λr=>Option.rec (motive:=λ_=>DT (b7×List c7)) .fail (λq=>F q λq=>.ret (R.enc q,[])) (R.rd r)) o
theorem if3{ρ:Type}{R:RR ρ}{F:ρ->(ρ->DT (b7×List c7))->DT (b7×List c7)}(hF:∀x f,F x f=f x){o:ROq}{r:b7×List c7}(h:(frc R F o).run=some r):(rdO R o).run=some r:=by
 cases o with
 |none=>cases h
 |some a =>
  unfold frc at h;unfold rdO okO L9;cases hr:R.rd a with
  |none=>simp only[hr] at h;cases h
  |some q=>simp only[hr,hF] at h ⊢;exact h
theorem Vf7{α β γ δ:Type}{f:Nat}{c:Cod α}{d:Cod β}{e:Cod γ}{g:Cod δ}{k k':α->β->γ->δ->DT (b7×List c7)}(h:l8 prog G f (Vd6 c d e g k))(hk:∀a b x y r,(k' a b x y).run=some r->(k a b x y).run=some r):l8 prog G f (Vd6 c d e g k'):=h.le λargs blks r hr=>by
 unfold Vd6 at hr ⊢
 split at hr
 ·obtain⟨a,h1,hr⟩:=K4 hr;obtain⟨b,h2,hr⟩:=K4 hr;obtain⟨x,h3,hr⟩:=K4 hr;obtain⟨y,h4,hr⟩:=K4 hr;obtain⟨g1,hr⟩:=DT.run_guard_some hr;obtain⟨g2,hr⟩:=DT.run_guard_some hr;obtain⟨g3,hr⟩:=DT.run_guard_some hr;obtain⟨g4,hr⟩:=DT.run_guard_some hr;simp only[h1,h2,h3,h4,onO,g1,g2,g3,g4];exact hk a b x y r hr
 ·cases hr
def cg3:Sum:=Z7 cI cI λx y=>frc (one (r1L tP)) fL (cc5 x y)
theorem Vf8:l8 prog G 32 cg3:=we4 ve8 λx y r h=>if3 zd7 h
def eqZ{β:Type}(h:β->β->Bool)(l:List β):List β->Bool :=
 List.rec (motive:=λ_=>List β->Bool) (λm=>List.rec (motive:=λ_=>Bool) true (λ_ _ _=>false) m) (λx _ ih m=>List.rec (motive:=λ_=>Bool) false (λy t _=>Bool.rec (motive:=λ_=>Bool) false (ih t) (h x y)) m) l
theorem xe0{β:Type}{h:β->β->Bool}(hh:∀x y,h x y=true->x=y):∀{l m:List β},eqZ h l m=true->l=m
 |[],[],_=>rfl
 |[],_::_,e=>by cases e
 |_::_,[],e=>by cases e
 |x::l,y::m,e=>by
  have e:Bool.rec (motive:=λ_=>Bool) false (eqZ h l m) (h x y)=true:=e
  cases hx:h x y with
  |false=>rw[hx] at e;cases e
  |true=>rw[hx] at e;rw[hh x y hx,xe0 hh e]
def og6(p q:Pln):Bool:=p.n.x==q.n.x&&(p.n.y==q.n.y&&(p.n.z==q.n.z&&p.b==q.b))
theorem Vf9(p q:Pln)(h:og6 p q=true):p=q:=by
 obtain⟨⟨x,y,z⟩,c⟩:=p;obtain⟨⟨x',y',z'⟩,c'⟩:=q;unfold og6 at h;simp only[Qas,beq_iff_eq] at h;obtain⟨rfl,rfl,rfl,rfl⟩:=h;rfl
abbrev eqQ:LPq->LPq->Bool:=eqZ (eqZ og6)
theorem xe1{l m:LPq}(h:eqQ l m=true):l=m:=xe0 (λ_ _ h=>xe0 Vf9 h) h
def bx2(a c:Int):PLq:=bx a 0 0 c 2 2
def eJ:Prt:=⟨⟨#[]⟩,[bx2 0 2,bx2 2 4,bx2 4 6],[1,2,3]⟩
def eO:Pce:=⟨[false,false,false],[false,false,false],[]⟩
def Ne1(x:Prt)(y:Pce)(z w:LPq):DT (b7×List c7):=frc (two r1O r1I) (λq f=>fO q.1 λp=>fI q.2 λe=>f (p,e)) (Ne0 [cJ.enc x,cO.enc y,(M3 tLq).enc z,(M3 tLq).enc w] []).run
theorem k1:(Ne1 eJ eO [bx2 2 4] [bx2 3 5]).run=some ((two r1O r1I).enc (⟨[false,true,false],[false,true,true],[bx2 2 4]⟩,0),[]):=by kernel_rfl
theorem k2:(Ne1 eJ eO [bx2 2 3,bx2 3 5] []).run=some ((two r1O r1I).enc (⟨[false,true,false],[false,true,true],[bx2 2 3,bx2 3 5]⟩,0),[]):=by kernel_rfl
theorem k3:(Ne1 eJ eO [bx2 2 4] [bx2 1 4]).run=some ((two r1O r1I).enc (⟨[false,true,false],[true,true,false],[bx2 2 4]⟩,0),[]):=by kernel_rfl
theorem k4:(Ne1 eJ eO [bx2 1 4] []).run=some ((two r1O r1I).enc (⟨[false,true,false],[true,true,false],[bx2 1 4]⟩,0),[]):=by kernel_rfl
def Bg8:Sum:=Vd6 cJ cO (M3 tLq) (M3 tLq) λx y z w=>.guard (fJ x λx=>fO y λy=>eqQ x.cl eJ.cl&&(eqZ (λa c=>a==c) x.wt eJ.wt&&(Nat.beq x.nm.size 0&&(eqZ (λa c=>a==c) y.su eO.su&&(eqZ (λa c=>a==c) y.to eO.to&&eqQ y.cu []))))) (fLL z λz=>fLL w λw =>
 .ite (eqQ z [bx2 2 4]&&eqQ w [bx2 3 5]) (.ret ((two r1O r1I).enc (⟨[false,true,false],[false,true,true],[bx2 2 4]⟩,0),[]))
 (.ite (eqQ z [bx2 2 3,bx2 3 5]&&eqQ w []) (.ret ((two r1O r1I).enc (⟨[false,true,false],[false,true,true],[bx2 2 3,bx2 3 5]⟩,0),[]))
 (.ite (eqQ z [bx2 2 4]&&eqQ w [bx2 1 4]) (.ret ((two r1O r1I).enc (⟨[false,true,false],[true,true,false],[bx2 2 4]⟩,0),[]))
 (.ite (eqQ z [bx2 1 4]&&eqQ w []) (.ret ((two r1O r1I).enc (⟨[false,true,false],[true,true,false],[bx2 1 4]⟩,0),[])) .fail))))
theorem Bg9(x:ByteArray)(h:Nat.beq x.size 0=true):x=⟨#[]⟩:=by
 obtain⟨d⟩:=x
 have:d.size=0:=Qad h
 rw[Array.eq_empty_of_size_eq_zero this]
theorem Ye1{β:Type}[BEq β][LawfulBEq β]{l m:List β}(h:eqZ (λa c=>a==c) l m=true):l=m:=xe0 (λ_ _ h=>by simpa using h) h
theorem og7:l8 prog G 19 Bg8:=Vf7 (rg5 Vf6 (two r1O r1I) (o:=λx y z w=>(Ne0 [cJ.enc x,cO.enc y,(M3 tLq).enc z,(M3 tLq).enc w] []).run) λx y z w r h=>h) λx y z w r h0=>by
 obtain⟨hg,h⟩:=DT.run_guard_some h0
 clear h0
 rw[Bg7,cg2] at hg;simp only[we5] at h;simp only[Qas] at hg;obtain⟨h1,h2,h3,h4,h5,h6⟩:=hg;have hx:x=eJ:=by
  obtain⟨nm,cl,wt⟩:=x
  simp only at h1 h2 h3
  rw[xe1 h1,Ye1 h2,Bg9 _ h3];rfl
 have hy:y=eO:=by
  obtain⟨su,to,cu⟩:=y
  simp only at h4 h5 h6
  rw[Ye1 h4,Ye1 h5,xe1 h6];rfl
 subst hx hy;have go:∀{z w z' w':LPq} {r':Pce×Int} {k:DT (b7×List c7)},(Ne1 eJ eO z' w').run=some ((two r1O r1I).enc r',[])->(DT.ite (eqQ z z'&&eqQ w w') (.ret ((two r1O r1I).enc r',[])) k).run=some r->(k.run=some r->(rdO (two r1O r1I) (Ne0 [cJ.enc eJ,cO.enc eO,(M3 tLq).enc z,(M3 tLq).enc w] []).run).run=some r)->(rdO (two r1O r1I) (Ne0 [cJ.enc eJ,cO.enc eO,(M3 tLq).enc z,(M3 tLq).enc w] []).run).run=some r:=λ{z w z' w' r' k} hk h hn=>by
  rw[DT.run_ite] at h
  split at h
  ·rename_i hc;rw[Qas] at hc;obtain⟨e1,e2⟩:=hc;rw[xe1 e1,xe1 e2,<- h];exact if3 (λq f=>by rw[cg2,If4]) hk
  ·exact hn h
 exact go k1 h λh=>go k2 h λh=>go k3 h λh=>go k4 h λh=>by cases h
def Cg0:Sum:=ba9 (En []) tg5
theorem og8:l8 prog G 33 Cg0:=bd b33 trivial
def cg4:Sum:=ba9 (En []) sg6
theorem Wf0:l8 prog G 15 cg4:=bd b15 trivial
def cg5:Sum:=ba9 (En [(27,hf8)]) ug6
theorem Wf1:l8 prog G 56 cg5:=bd b56 ⟨we8,trivial⟩
def cg6:Sum:=ba9 (En []) ug7
theorem Wf2:l8 prog G 57 cg6:=bd b57 trivial
def cg7:Sum:=ba9 (En []) ug8
theorem Wf3:l8 prog G 58 cg7:=bd b58 trivial
def cg8:Sum:=ba9 (En [(44,if1),(56,cg5),(57,cg6),(58,cg7)]) Pf1
theorem Wf4:l8 prog G 22 cg8:=bd b22 ⟨we9,Wf1,Wf2,Wf3,trivial⟩
def Jf0:Sum:=ba9 (En [(44,if1),(49,Ye0),(48,If9)]) tg1
theorem Jf1:l8 prog G 25 Jf0:=bd b25 ⟨we9,Me9,if2,trivial⟩
def cg9:Sum:=ba9 (En []) ig1
theorem Wf5:l8 prog G 59 cg9:=bd b59 trivial
def Jf2:Sum:=ba9 (En [(59,cg9)]) hg6
theorem Jf3:l8 prog G 24 Jf2:=bd b24 ⟨Wf5,trivial⟩
def dg0:Sum:=ba9 (En [(32,cg3),(12,If5),(15,cg4),(19,Bg8),(33,Cg0),(22,cg8),(25,Jf0),(24,Jf2)]) pf9
theorem Wf6:l8 prog G 9 dg0:=bd b9 ⟨Vf8,hf9,Wf0,og7,og8,Wf4,Jf1,Jf3,trivial⟩
theorem Wf7:(dg0 [] []).run=some (b true,[]):=by kernel_rfl
def Lb2:Bool:=true
def Lb3:Bool:=true
def Lb4:Sum:=rg2 (.guard Lb3 (.ret ((one r1B).enc Lb2,[])))
theorem ud8:l8 prog G 9 Lb4:=Wf6.le λargs blks r h=>by
 unfold Lb4 rg2 at h
 split at h
 ·rw[Wf7];exact h
 ·cases h
def oc0:List (Nat×Sum):=[(9,Lb4),(10,cc6),(16,je6),(18,zd6),(17,Ud7),(20,yd8),(11,ke2),(21,Nc1),(22,zc8),(23,Wc5),(25,md4),(26,Sd9),(24,Kc1)]
theorem hc9:A4 prog G oc0:=⟨ud8,bd5,Ve7,ve9,Le8,ue8,Xe5,Dd5,ud2,Sd8,ae7,Ke5,Cd9,trivial⟩
def da7(x:Cse):ROq:=let y9:=(rt (tLs tI) x.t0);let y8:=(rt (tLs tI) x.c0);let y7:=(⟨x.q3,x.q4,x.q5⟩:V3);let t1:=Lb2;let y6:=(⟨rt tI x.p0,rt tI x.p1,y8,rt (tLs tI) x.c1,y9,rt (tLs tI) x.t1,x.q0,x.q1,x.q2,x.q3,x.q4,x.q5⟩:Cse);let t2:=(ub9 y6);let y0:=(⟨t2.nm,rt tLq t2.cl,rt tI t2.wt⟩:Prt);let t3:=(Rc6 y0);let y4:=(⟨rt tB t3.su,rt tB t3.to,rt tLq t3.cu⟩:Pce);let t4:=(cc7 y8);let t5:=(La8 (rt (tLs tI) t4) y0);let t6:=(cc7 y9);let t7:=(La8 (rt (tLs tI) t6) y0);let t8:=(cc3 y0 y4 (rt tLq t5) (rt tLq t7));let y2:=(⟨rt tB t8.1.su,rt tB t8.1.to,rt tLq t8.1.cu⟩:Pce);let t9:=(Rc8 y0 (⟨x.q0,x.q1,x.q2⟩:V3));let y1:=(⟨t9.nm,rt tLq t9.cl,rt tI t9.wt⟩:Prt);let t10:=(ub7 y2 y7);let y3:=(⟨rt tB t10.su,rt tB t10.to,rt tLq t10.cu⟩:Pce);let t11:=(U1 y0 y4);let t12:=(ba6 y0 y4);let t13:=(ia2 y0 y4);let t14:=(La4 y0 y4);let t15:=(T3 (rt tLq t13) (rt tLq t14));let t16:=(U1 y0 y2);let t17:=(ba6 y0 y2);let t18:=(ia2 y0 y2);let t19:=(La4 y0 y2);let t20:=(T3 (rt tLq t18) (rt tLq t19));let t21:=(U1 y0 y3);let t22:=(ba6 y0 y3);let t23:=(ia2 y0 y3);let t24:=(La4 y0 y3);let t25:=(T3 (rt tLq t23) (rt tLq t24));let t26:=(Rc6 y1);let y5:=(⟨rt tB t26.su,rt tB t26.to,rt tLq t26.cu⟩:Pce);let t27:=(U1 y1 y5);let t28:=(ba6 y1 y5);let t29:=(ia2 y1 y5);let t30:=(La4 y1 y5);let t31:=(T3 (rt tLq t29) (rt tLq t30));let t32:=(U1 y1 y2);let t33:=(ba6 y1 y2);let t34:=(ia2 y1 y2);let t35:=(La4 y1 y2);let t36:=(T3 (rt tLq t34) (rt tLq t35));let t37:=(U1 y1 y3);let t38:=(ba6 y1 y3);let t39:=(ia2 y1 y3);let t40:=(La4 y1 y3);let t41:=(T3 (rt tLq t39) (rt tLq t40));let a0:=((okE tLq t2.cl)&&((okE tI t2.wt)&&true));let a1:=((okE tB t8.1.su)&&((okE tB t8.1.to)&&((okE tLq t8.1.cu)&&true)));let a2:=((okE tLq t9.cl)&&((okE tI t9.wt)&&true));let a3:=((okE tB t10.su)&&((okE tB t10.to)&&((okE tLq t10.cu)&&true)));let a4:=((okE tB t3.su)&&((okE tB t3.to)&&((okE tLq t3.cu)&&true)));let a5:=((okE tB t26.su)&&((okE tB t26.to)&&((okE tLq t26.cu)&&true)));(sl Lb3 (sl ((okE tI x.p0)&&((okE tI x.p1)&&((okE (tLs tI) x.c0)&&((okE (tLs tI) x.c1)&&((okE (tLs tI) x.t0)&&((okE (tLs tI) x.t1)&&true)))))) (sl (vb0 y6) (sl a0 (sl (mc4 y0) (sl (okE (tLs tI) x.c0) (sl (cc8 y8) (sl (okE (tLs tI) t4) (sl a0 (sl (uc8 (rt (tLs tI) t4) y0) (sl (okE (tLs tI) x.t0) (sl (cc8 y9) (sl (okE (tLs tI) t6) (sl a0 (sl (uc8 (rt (tLs tI) t6) y0) (sl a0 (sl a4 (sl (okE tLq t5) (sl (okE tLq t7) (sl (Lc2 y0 y4 (rt tLq t5) (rt tLq t7)) (sl a0 (sl (ud3 y0 (⟨x.q0,x.q1,x.q2⟩:V3)) (sl a0 (sl (mc4 y0) (sl a1 (sl (ub8 y2 y7) (sl a0 (sl a4 (sl (U2 y0 y4) (sl a0 (sl a4 (sl (ba7 y0 y4) (sl (t11 != t12) (some (b false,[])) (sl a0 (sl a4 (sl (ia3 y0 y4) (sl a0 (sl a4 (sl (La5 y0 y4) (sl (okE tLq t13) (sl (okE tLq t14) (sl (T4 (rt tLq t13) (rt tLq t14)) (sl (!t15) (some (b false,[])) (sl a0 (sl a1 (sl (U2 y0 y2) (sl a0 (sl a1 (sl (ba7 y0 y2) (sl (t16 != t17) (some (b false,[])) (sl a0 (sl a1 (sl (ia3 y0 y2) (sl a0 (sl a1 (sl (La5 y0 y2) (sl (okE tLq t18) (sl (okE tLq t19) (sl (T4 (rt tLq t18) (rt tLq t19)) (sl (!t20) (some (b false,[])) (sl a0 (sl a3 (sl (U2 y0 y3) (sl a0 (sl a3 (sl (ba7 y0 y3) (sl (t21 != t22) (some (b false,[])) (sl a0 (sl a3 (sl (ia3 y0 y3) (sl a0 (sl a3 (sl (La5 y0 y3) (sl (okE tLq t23) (sl (okE tLq t24) (sl (T4 (rt tLq t23) (rt tLq t24)) (sl (!t25) (some (b false,[])) (sl a2 (sl (mc4 y1) (sl a1 (sl (ub8 y2 y7) (sl a2 (sl a5 (sl (U2 y1 y5) (sl a2 (sl a5 (sl (ba7 y1 y5) (sl (t27 != t28) (some (b false,[])) (sl a2 (sl a5 (sl (ia3 y1 y5) (sl a2 (sl a5 (sl (La5 y1 y5) (sl (okE tLq t29) (sl (okE tLq t30) (sl (T4 (rt tLq t29) (rt tLq t30)) (sl (!t31) (some (b false,[])) (sl a2 (sl a1 (sl (U2 y1 y2) (sl a2 (sl a1 (sl (ba7 y1 y2) (sl (t32 != t33) (some (b false,[])) (sl a2 (sl a1 (sl (ia3 y1 y2) (sl a2 (sl a1 (sl (La5 y1 y2) (sl (okE tLq t34) (sl (okE tLq t35) (sl (T4 (rt tLq t34) (rt tLq t35)) (sl (!t36) (some (b false,[])) (sl a2 (sl a3 (sl (U2 y1 y3) (sl a2 (sl a3 (sl (ba7 y1 y3) (sl (t37 != t38) (some (b false,[])) (sl a2 (sl a3 (sl (ia3 y1 y3) (sl a2 (sl a3 (sl (La5 y1 y3) (sl (okE tLq t39) (sl (okE tLq t40) (sl (T4 (rt tLq t39) (rt tLq t40)) (sl (!t41) (some (b false,[])) (some (b t1,[]))) none) none) none) none) none) none) none) none) none)) none) none) none) none) none) none)) none) none) none) none) none) none) none) none) none)) none) none) none) none) none) none)) none) none) none) none) none) none) none) none) none)) none) none) none) none) none) none) none) none) none) none)) none) none) none) none) none) none) none) none) none)) none) none) none) none) none) none)) none) none) none) none) none) none) none) none) none)) none) none) none) none) none) none)) none) none) none) none) none) none) none) none) none)) none) none) none) none) none) none) none) none) none) none) none) none) none) none) none) none) none) none) none) none) none) none) none) none) none) none) none) none) none) none) none) none)
def qa1(x:Cse):Bool:=L9 (one r1B) (da7 x)
def qa2(x:Cse):Bool:=okO (one r1B) (da7 x)
def uc9:Sum:=S7 cF (λx=>.guard (qa2 x) (.ret ((one r1B).enc (qa1 x),[])))
theorem oc1:l8 prog G 5 uc9:=Sa7 (bd b5 hc9) (one r1B) (o:=da7)
theorem rf6{x:Prt}{y:Pce}(hx:Jok x):T3 (db7 x y) (db7 x y)=true/\T4 (db7 x y) (db7 x y)=true:=by
 have h:(db7 x y).length<=1000000/\∀q∈db7 x y,q.length<=1000000:=by
  unfold db7;split
  ·exact⟨by simp,by simp⟩
  ·have:=Rc7 x.cl y.su x.cl.length
   have:=hx.cl
   exact⟨by omega,λq hq=>hx.pl q (nc7 (Qaf _) hq)⟩
 exact⟨We0 h.1 h.2,We1 h.1 h.2⟩
theorem rf7{x:Prt}{y:Pce}(hx:Jok x)(hn:(∀q∈x.cl,q≠[])\/2<=x.cl.length)(hy:Pok y) :
  (U1 x y=Le4 x y/\U2 x y=true/\ba6 x y=Le4 x y/\ba7 x y=true)/\(ia2 x y=db7 x y/\ia3 x y=true/\La4 x y=db7 x y/\La5 x y=true) /\
  T3 (db7 x y) (db7 x y)=true/\T4 (db7 x y) (db7 x y)=true :=
 ⟨⟨rf1 hx hy,rf2 hx hy,Xe2 hx hy,Xe3 hx hy⟩,⟨(Le6 hx hy hn).1,(Le6 hx hy hn).2,Uf0 hx hy,Uf1 hx hy⟩,rf6 hx⟩
theorem Wc7(x:Cse):da7 x=some (b true,[]):=by
 have m:=ng4 ⟨x.p0,x.p1⟩;have s:Lb2=true:=rfl;have s':Lb3=true:=rfl;have c1:=og2 ⟨x.p0,x.p1,x.c0,x.c1,x.t0,x.t1,x.q0,x.q1,x.q2,x.q3,x.q4,x.q5⟩;have c2:=og3 ⟨x.p0,x.p1,x.c0,x.c1,x.t0,x.t1,x.q0,x.q1,x.q2,x.q3,x.q4,x.q5⟩;generalize Ab9 ⟨x.p0,x.p1⟩=P at *
 obtain⟨pn,pc,pw⟩:=P;have hj:=m.jok;have hne:=m.ne;have n1:=Hf4 (x:=⟨pn,pc,pw⟩) hj.cl;have n2:=Hf5 (x:=⟨pn,pc,pw⟩) hj.cl;have y1:=hf6 hj;unfold qf6 at n1 y1;have q1:=If1 (x:=x.c0.take 3) m;have q2:=If2 (x:=x.c0.take 3) m;have q3:=If1 (x:=x.t0.take 3) m;have q4:=If2 (x:=x.t0.take 3) m;have l1:(x.c0.take 3).length<=3:=by rw[Qia];omega
 have l2:(x.t0.take 3).length<=3:=by rw[Qia];omega
 obtain⟨a1,a2⟩:=If0 (x:=⟨pn,pc,pw⟩) (su:=List.replicate pc.length false) (to:=List.replicate pc.length false) (z:=La8 (x.c0.take 3) ⟨pn,pc,pw⟩) (w:=La8 (x.t0.take 3) ⟨pn,pc,pw⟩) hj
  (by have:=m.c.n2;omega) (λq hq=>by have:=(m.c.k q hq).2;omega) (by rw[Qbn]) (by rw[Qbn]) (by have:=q1.1;omega) (λq hq=>by have:=(q1.2.n q hq).2;omega) (by have:=q3.1;omega) (λq hq=>by have:=(q3.2.n q hq).2;omega)
 have o1:=Uf5 m ⟨x.q0,x.q1,x.q2⟩;have o2:=ng7 m ⟨x.q0,x.q1,x.q2⟩;generalize hQ:Rc8 ⟨pn,pc,pw⟩ ⟨x.q0,x.q1,x.q2⟩=Q at *
 obtain⟨qn,qc,qw⟩:=Q;obtain⟨hq,hqn⟩:=o1;have n3:=Hf4 (x:=⟨qn,qc,qw⟩) hq.cl;have n4:=Hf5 (x:=⟨qn,qc,qw⟩) hq.cl;have y4:=hf6 hq;unfold qf6 at n3 y4;generalize hA:cc3 ⟨pn,pc,pw⟩ ⟨List.replicate pc.length false,List.replicate pc.length false,[]⟩ (La8 (x.c0.take 3) ⟨pn,pc,pw⟩) (La8 (x.t0.take 3) ⟨pn,pc,pw⟩)=A at *
 obtain⟨⟨zs,zt,zc⟩,ze⟩:=A;have y2:=a1.ok;have d1:=ng8 a1 ⟨x.q3,x.q4,x.q5⟩;have d2:=ng9 a1 ⟨x.q3,x.q4,x.q5⟩
 simp only at d1 d2 y2
 generalize hO:ub7 ⟨zs,zt,zc⟩ ⟨x.q3,x.q4,x.q5⟩=O at *
 obtain⟨os,ot,oc⟩:=O;obtain⟨⟨e1,e2,e3,e4⟩,⟨e5,e6,e7,e8⟩,e9,e0⟩:=rf7 hj (.inl hne) y1;obtain⟨⟨f1,f2,f3,f4⟩,⟨f5,f6,f7,f8⟩,f9,f0⟩:=rf7 hj (.inl hne) y2;obtain⟨⟨h1,h2,h3,h4⟩,⟨h5,h6,h7,h8⟩,h9,h0⟩:=rf7 hj (.inl hne) d1;obtain⟨⟨i1,i2,i3,i4⟩,⟨i5,i6,i7,i8⟩,i9,i0⟩:=rf7 hq hqn y4;obtain⟨⟨j1,j2,j3,j4⟩,⟨j5,j6,j7,j8⟩,j9,j0⟩:=rf7 hq hqn y2;obtain⟨⟨k1,k2,k3,k4⟩,⟨k5,k6,k7,k8⟩,k9,k0⟩:=rf7 hq hqn d1;unfold da7;simp only[l9,A3,s7,Qka,g7,A7,s,s',c1,c2,n1,n2,n3,n4,Bg1,Bg2,q2,q4,hQ,o2,hA,a2,hO,d2,e1,e2,e3,e4,e5,e6,e7,e8,e9,e0,f1,f2,f3,f4,f5,f6,f7,f8,f9,f0,h1,h2,h3,h4,h5,h6,h7,h8,h9,h0,
  i1,i2,i3,i4,i5,i6,i7,i8,i9,i0,j1,j2,j3,j4,j5,j6,j7,j8,j9,j0,k1,k2,k3,k4,k5,k6,k7,k8,k9,k0,bne_self_eq_false,Qkf]
theorem Ne2(x:Cse):qa1 x=true:=by unfold qa1;rw[Wc7 x];rfl
theorem Ne3(x:Cse):qa2 x=true:=by unfold qa2;rw[Wc7 x];rfl
end Go.Ev.Ce
namespace Go.Ev.Ce
open Go Go.Ev Go.Ev.L Go.ChangeShapes Go.RowKit
section
variable{D:Type}{enc:TypeId×Value->D}{P:Program}{w:World}{spare:Nat->Bool}{held:Bool}
def Seg(w:World)(ok:List b7->Prop)(cs:List Value):Prop:=∃avs:List b7,avs.length=cs.length/\ok avs/\∀(i:Nat) x v,avs[i]?=some x->cs[i]?=some v->fa8 (Ie7 w) w x v
theorem Seg.imp{o o':List b7->Prop}{cs:List Value}(h:Seg w o cs)(k:∀a,o a->o' a):Seg w o' cs:=by
 obtain⟨a,h1,h2,h3⟩:=h;exact⟨a,h1,k a h2,h3⟩
theorem Seg.app{o o':List b7->Prop}{a c:List Value}(h:Seg w o a)(k:Seg w o' c):Seg w (λl=>∃u v,l=u++v/\o u/\o' v) (a++c):=by
 obtain⟨u,h1,h2,h3⟩:=h;obtain⟨v,k1,k2,k3⟩:=k;refine⟨u++v,by simp[h1,k1],⟨u,v,rfl,h2,k2⟩,λi x y hx hy=>?_⟩
 by_cases hi:i<u.length
 ·rw[Qbb hi] at hx;rw[Qbb (by omega)] at hy
  exact h3 i x y hx hy
 ·rw[Qba (by omega)] at hx
  rw[Qba (by omega),<- h1] at hy
  exact k3 _ x y hx hy
theorem Jf4{α:Type}(t:Ty α){e:TypeId}{d:Nat}(hf:ka2 P d e=some (db9 .i64 t.es))(ht:∀g,t.ok (Ic5 .i64 t.es g)=true){fuel:Nat}{cs:List Value}{x:DataW D×List MemPlace}
  (hx:DataW.trod enc P w 0 spare held fuel e cs=some x) (hl:cs.length=t.es):Seg w (λa=>t.ok a=true) cs:=by
 obtain⟨g,hg⟩:=ef0 hf hx hl;refine⟨Ic5 .i64 t.es g,by simp[Ic5,hl],ht g,λi x v h1 h2=>?_⟩
 obtain⟨hi,rfl⟩:=Pd9 h1;rw[hg i hi] at h2;cases h2;exact Ie9 _ _
theorem rf8{a:Addr}{n:Nat}{row:List Value}(h:w.cells? 0 a n=some row):row.length=n/\∀c,c<n->w.cell? (a.add c)=row[c]?:=by
 unfold World.cells? at h
 split at h
 ·obtain⟨l1,l2⟩:=Ic4 h;have hl:row.length=n:=by simpa using l1
  refine⟨hl,λc hc=>?_⟩
  obtain⟨i,hi,hi2⟩:=l2 c _ (Qaa (by omega))
  rw[Qjq hc] at hi;injection hi with hi;subst hi;rw[hi2,Qaa]
 ·cases h
theorem ke5{α:Type}(t:Ty α){s e:TypeId}(hs:P.underlying s=some (.slice e))(hce:P.cellsOf e=t.es)(h0:0<t.es)
  (hE:∀(fuel:Nat) (row:List Value) (y:DataW D×List MemPlace),DataW.trod enc P w 0 spare held fuel e row=some y->row.length=t.es->Seg w (λa=>t.ok a=true) row)
  {fuel:Nat} {cs:List Value} {x:DataW D×List MemPlace} (hx:DataW.trod enc P w 0 spare held fuel s cs=some x) :
  Seg w (λa=>∃n get,a=[.tree t.es n get]/\n<=maxLen/\(tLs t).ok a=true) cs:=by
 rcases Df9 hs hx with rfl|⟨a,n,cap,fuel',rfl,hn,hc,hel⟩
 ·refine⟨[.tree t.es 0 λ_=>[]],rfl,⟨0,_,rfl,Qbv _,?_⟩,λi x v h1 h2=>?_⟩
  ·show Bool.and (Nat.beq t.es t.es) (okL t 0 λ_=>[])=true
   rw[Qim];rfl
  ·match i,h1,h2 with
   |0,h1,h2=>cases h1;cases h2;exact .nil _ _
 ·rw[hce] at hel;have hcell:∀j,∃q:List b7×List Value,j<n->q.2.length=t.es/\q.1.length=t.es/\t.ok q.1=true/\(∀c,c<t.es->w.cell? ((a.add (j*t.es)).add c)=q.2[c]?)/\∀(i:Nat) x v,q.1[i]?=some x->q.2[i]?=some v->fa8 (Ie7 w) w x v:=λj=>by
   by_cases hj:j<n
   ·obtain⟨row,y,h1,h2⟩:=hel j hj;obtain⟨g1,g2⟩:=rf8 h1;obtain⟨avs,k1,k2,k3⟩:=hE fuel' row y h2 g1;exact⟨(avs,row),λ_=>⟨g1,by rw[k1,g1],k2,g2,k3⟩⟩
   ·exact⟨([],[]),λh=>absurd h hj⟩
  obtain⟨q,hq⟩:=Classical.axiomOfChoice hcell;have hspot:0<n->a.spot=none:=λhn=>by
   obtain⟨k1,_,_,k4,_⟩:=hq 0 hn
   have:=k4 0 h0
   rw[Qaa (by omega)] at this
   simpa [Addr.add] using World.cell?_spot this
  have hw:∀j c,j<n->c<t.es->w.cell? ⟨a.block,a.off+(j*t.es+c),none⟩=some ((q j).2.getD c (.bool true)):=λj c hj hc=>by
   obtain⟨k1,_,_,k4,_⟩:=hq j hj
   have:=k4 c hc
   rw[aa2 (hspot (by omega)),aa2 rfl] at this
   rw[Qda,Qaa (by omega)]
   rw[Qaa (by omega)] at this
   simpa [Qal] using this
  refine⟨[.tree t.es n λj=>(q j).1],rfl,⟨n,_,rfl,Qai hn hc,?_⟩,λi x v h1 h2=>?_⟩
  ·show Bool.and (Nat.beq t.es t.es) (okL t n λj=>(q j).1)=true
   rw[Qim,Qke];unfold okL;rw[Qcc];exact λj hj=>(hq j (by simpa using hj)).2.2.1
  ·match i,h1,h2 with
   |0,h1,h2 =>
    cases h1;cases h2;refine .tree t.es n _ a cap (λj c=>(q j).2.getD c (.bool true)) hspot hn (λi hi=>(hq i hi).2.1) (λi c hi hc=>?_) hw λi c hi hc=>?_
    ·unfold Ie7;rw[hw i c hi hc];rfl
    ·obtain⟨k1,k2,_,_,k5⟩:=hq i hi;have hc2:c<(q i).2.length:=by omega
     refine k5 c _ _ (Qaa hc) ?_;rw[Qda,Qaa hc2];rfl
theorem ud9{t e:TypeId}{m:Nat}{o:List b7->Prop}(ht:P.underlying t=some (.array 2 e))(hce:P.cellsOf e=m)(hct:P.cellsOf t=m+m)
  (hE:∀(fuel:Nat) (row:List Value) (y:DataW D×List MemPlace),DataW.trod enc P w 0 spare held fuel e row=some y->row.length=m->Seg w o row)
  {fuel:Nat} {cs:List Value} {x:DataW D×List MemPlace} (hx:DataW.trod enc P w 0 spare held fuel t cs=some x):Seg w (λl=>∃u v,l=u++v/\o u/\o v) cs:=by
 obtain⟨hl,f1,xs,hn,_,hxs⟩:=Ie8 ht hx;rw[hct] at hl;have h0:=hxs 0 _ (Qaa (by omega))
 have h1:=hxs 1 _ (Qaa (by omega))
 rw[hce] at h0 h1;have s0:=hE _ _ _ h0 (by simp;omega)
 have s1:=hE _ _ _ h1 (by simp;omega)
 have:=s0.app s1
 have e:(cs.drop (0*m)).take m++(cs.drop (1*m)).take m=cs:=by
  rw[Nat.zero_mul,Qic,Qbi,Qip (l:=cs.drop m) (by simp;omega),List.take_append_drop]
 rw[e] at this;exact this
theorem Jf5{ρ:Rho}{H:List c7}{t t0 t1 t3 e1 ti:TypeId}{f0 f1 f2 f3:Field}{v:Value}{dd:DataW D}{pp:List MemPlace}{bs:Nat}{r:Reach}{d:Nat}
  (ht:P.underlying t=some (.struct #[f0,f1,f2,f3])) (q0:f0.type=t0/\f0.offset=0) (q1:f1.type=t1/\f1.offset=2) (q2:f2.type=t1/\f2.offset=4) (q3:f3.type=t3/\f3.offset=6)
  (h0:P.underlying t0=some (.array 2 ti)) (hi:P.underlying ti=some (.slice 3)) (h1:P.underlying t1=some (.array 2 e1)) (he:P.underlying e1=some (.slice ti))
  (c1:P.cellsOf t0=2/\P.cellsOf t1=2/\P.cellsOf t3=6/\P.cellsOf ti=1/\P.cellsOf e1=1/\P.cellsOf 3=1/\P.cellsOf t=12) (hf:ka2 P d t3=some (db9 .i64 6)) (hf2:ka2 P d 3=some (db9 .i64 1))
  (hok:Value.okWide P w r bs t v) (h:DataW.Trod enc P w 0 spare held t v dd pp) :
  ∃avs:List b7,(ef1 avs=true/\ef2 avs=true)/\ra2 ρ H (Ie7 w) w (.agg avs) v:=by
 have hv:∃cs:Array Value,v=.agg cs/\cs.size=P.cellsOf t:=by
  unfold Value.okWide at hok;rw[ht] at hok;obtain⟨cs,h1,h2,_⟩:=hok;exact⟨cs,h1,h2⟩
 obtain⟨cs,rfl,hsz⟩:=hv;obtain⟨fuel,hx⟩:=h;have hx:DataW.trod enc P w 0 spare held fuel t cs.toList=some (dd,pp):=hx;obtain⟨k0,k1,k2,k3,k4,k5,k6⟩:=c1;obtain⟨_,fu,xs,_,_,hxs⟩:=je0 ht hx;obtain⟨y0,_,g0⟩:=hxs 0 f0 rfl;obtain⟨y1,_,g1⟩:=hxs 1 f1 rfl;obtain⟨y2,_,g2⟩:=hxs 2 f2 rfl;obtain⟨y3,_,g3⟩:=hxs 3 f3 rfl;rw[q0.1,q0.2,k0] at g0;rw[q1.1,q1.2,k1] at g1;rw[q2.1,q2.2,k1] at g2;rw[q3.1,q3.2,k2] at g3;have hl:cs.toList.length=12:=by rw[Array.length_toList,hsz,k6]
 have sI:∀(f:Nat) (row:List Value) (y:DataW D×List MemPlace),DataW.trod enc P w 0 spare held f ti row=some y->row.length=1->Seg w (λa=>∃n get,a=[.tree 1 n get]/\n<=maxLen/\(tLs tI).ok a=true) row:=λf row y h _ =>
  ke5 tI hi k5 (by decide) (λf row y h hl=>Jf4 tI hf2 (λ_=>rfl) h hl) h
 have sJ:∀(f:Nat) (row:List Value) (y:DataW D×List MemPlace),DataW.trod enc P w 0 spare held f e1 row=some y->row.length=1->Seg w (λa=>∃n get,a=[.tree 1 n get]/\n<=maxLen/\(tLs (tLs tI)).ok a=true) row:=λf row y h _ =>
  ke5 (tLs tI) he k3 (by decide) (λf row y h hl=>(sI f row y h hl).imp λa ha=>by obtain⟨_,_,rfl,_,h⟩:=ha;exact h) h
 have s0:=ud9 h0 k3 (by rw[k0]) sI g0
 have s1:=ud9 h1 k4 (by rw[k1]) sJ g1
 have s2:=ud9 h1 k4 (by rw[k1]) sJ g2
 have s3:Seg w (λa=>∃g,a=Ic5 .i64 6 g) ((cs.toList.drop 6).take 6):=by
  obtain⟨g,hg⟩:=ef0 hf g3 (by simp[hl])
  refine⟨Ic5 .i64 6 g,by simp[Ic5,hl],⟨g,rfl⟩,λi x v h1 h2=>?_⟩
  obtain⟨hi,rfl⟩:=Pd9 h1;rw[hg i hi] at h2;cases h2;exact Ie9 _ _
 have hS:=s0.app (s1.app (s2.app s3));have e:(cs.toList.drop 0).take 2++((cs.toList.drop 2).take 2++((cs.toList.drop 4).take 2++(cs.toList.drop 6).take 6))=cs.toList:=by
  match cs.toList,hl with
  |[_,_,_,_,_,_,_,_,_,_,_,_],_=>rfl
 rw[e] at hS;obtain⟨avs,p1,⟨_,_,rfl,⟨_,_,rfl,⟨n0,g0,rfl,_,o0⟩,n1,g1,rfl,_,o1⟩,_,_,rfl,⟨_,_,rfl,⟨n2,g2,rfl,_,o2⟩,n3,g3,rfl,_,o3⟩,_,_,rfl,⟨_,_,rfl,⟨n4,g4,rfl,_,o4⟩,n5,g5,rfl,_,o5⟩,g6,rfl⟩,p3⟩:=hS;refine⟨_,⟨?_,rfl⟩,.agg _ _ (p1.trans (by rw[Array.length_toList])) λi x x' h1 h2=>.mem (p3 i x x' h1 (by rw[Qby];exact h2))⟩
 show Bool.and ((tLs tI).ok [.tree 1 n0 g0]) (Bool.and ((tLs tI).ok [.tree 1 n1 g1]) (Bool.and ((tLs (tLs tI)).ok [.tree 1 n2 g2]) (Bool.and ((tLs (tLs tI)).ok [.tree 1 n3 g3]) (Bool.and ((tLs (tLs tI)).ok [.tree 1 n4 g4]) (Bool.and ((tLs (tLs tI)).ok [.tree 1 n5 g5]) true)))))=true;rw[o0,o1,o2,o3,o4,o5];rfl
theorem Jf6{avs:List b7}(h:ef1 avs=true/\ef2 avs=true):∃a:Cse,Rdg cF (.agg avs) a:=⟨tF.rd avs,by
 show Bool.rec (motive:=λ_=>Option Cse) none (some (tF.rd avs)) (ef2 avs)=_
 rw[h.2],h.1⟩
end
end Go.Ev.Ce
