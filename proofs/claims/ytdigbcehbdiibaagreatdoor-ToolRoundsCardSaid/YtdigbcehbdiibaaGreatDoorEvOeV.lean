/- Own work. -/
import Derived.Test.YtdigbcehbdiibaaGreatDoorEvOeR
set_option linter.all false
noncomputable section
def Qla:=@List.not_mem_nil
def Qlb:=@Int.mul_ne_zero
def Qlc:=@List.length_pos_of_mem
namespace Go.Ev.Ce
open Go Go.Ev Go.Ev.L Go.Proofs
set_option maxRecDepth 100000
theorem abR{r:Int}(h1:1<=r)(h8:r<=8):0<=aR r/\2*(aR r*aR r)<=r*r/\aR r<=5/\1<=bR r/\bR r<=r/\bR r<=4/\2*(r*r)<=(r+bR r)*(r+bR r)/\r*r+bR r*bR r<=(r+1)*(r+1):=by
 rcases fc5 h1 h8 with rfl|rfl|rfl|rfl|rfl|rfl|rfl|rfl<;>decide
theorem de0{r b h:Int}(hr:0<=r/\r<=24)(hb:0<=b/\b<=24)(hh:0<=h/\h<=24){v:V3}(hv:Oct r b h v):inV v=true:=by
 obtain⟨h1,h2⟩:=hv;unfold inV;rw[Ae0 (by omega) (by omega),Ae0 (by omega) (by omega),Ae0 (by omega) (by omega)]
 rfl
section
variable{r h:Int}(h1:1<=r)(h8:r<=8)(k1:1<=h)(k2:h<=12)
include h1 h8 k1 k2
theorem de1(v:V3):v∈Ic4 r h↔Oct r (bR r) h v:=by
 have:=abR h1 h8
 exact ce8 (by omega) (by omega) (by omega) v
theorem Ae1(v:V3):v∈inA r h↔Oct r 0 h v\/Oct (aR r) (aR r) h v:=by
 have:=abR h1 h8
 unfold inA;rw[Qkd,ce8 (by omega) (by omega) (by omega),ce8 (by omega) (by omega) (by omega)]
theorem tf2:(Ic4 r h).all inV=true:=by
 have:=abR h1 h8
 exact Qcb.2 λv hv=>de0 (by omega) (by omega) (by omega) ((de1 h1 h8 k1 k2 v).1 hv)
theorem Hf7:(inA r h).all inV=true:=by
 have:=abR h1 h8
 refine Qcb.2 λv hv=>?_
 rcases (Ae1 h1 h8 k1 k2 v).1 hv with hv|hv
 ·exact de0 (by omega) (by omega) (by omega) hv
 ·exact de0 (by omega) (by omega) (by omega) hv
theorem Id5:P9 (Ic4 r h)=0:=by
 have hb:=abR h1 h8;have m:∀x y z:Int,Oct r (bR r) h ⟨x,y,z⟩->(⟨x,y,z⟩:V3)∈Ic4 r h:=λx y z q=>(de1 h1 h8 k1 k2 _).2 q
 refine Ab0 (by show (16:Nat)<=48;omega) (tf2 h1 h8 k1 k2) ⟨⟨r,bR r,0⟩,⟨r,-bR r,0⟩,⟨-r,bR r,0⟩,⟨r,bR r,h⟩,m _ _ _ (by simp[Oct]),m _ _ _ (by simp[Oct]),m _ _ _ (by simp[Oct]),m _ _ _ (by simp[Oct]),?_⟩
 have e:r*bR r*h≠0:=Qlb (Qlb (by omega) (by omega)) (by omega)
 simp only[N3,d7,K4,dot];intro q;apply e;grind
theorem de2:P9 (inA r h)=0:=by
 have m:∀x y z:Int,Oct r 0 h ⟨x,y,z⟩->(⟨x,y,z⟩:V3)∈inA r h:=λx y z q=>(Ae1 h1 h8 k1 k2 _).2 (.inl q)
 refine Ab0 (by show (32:Nat)<=48;omega) (Hf7 h1 h8 k1 k2) ⟨⟨r,0,0⟩,⟨0,r,0⟩,⟨-r,0,0⟩,⟨r,0,h⟩,m _ _ _ (by simp[Oct]),m _ _ _ (by simp[Oct]),m _ _ _ (by simp[Oct]),m _ _ _ (by simp[Oct]),?_⟩
 have e:r*r*h≠0:=Qlb (Qlb (by omega) (by omega)) (by omega)
 simp only[N3,d7,K4,dot];intro q;apply e;grind
end
def fc6(x:Int):ROq:=(some (.sl 0 0 8 0,[bq 52 3 [[i (W (x*0)),i (W (x*0)),i (W (x*0))],[i (W (x*0)),i (W (x*0)),i (W (x*1))],[i (W (x*0)),i (W (x*1)),i (W (x*0))],[i (W (x*0)),i (W (x*1)),i (W (x*1))],[i (W (x*1)),i (W (x*0)),i (W (x*0))],[i (W (x*1)),i (W (x*0)),i (W (x*1))],[i (W (x*1)),i (W (x*1)),i (W (x*0))],[i (W (x*1)),i (W (x*1)),i (W (x*1))]]]))
def ta1(x:Int):List V3:=G5 (one (r1L tV)) (fc6 x)
def V1(x:Int):Bool:=okO (one (r1L tV)) (fc6 x)
def fc7:Sum:=G4 cI (λx=>.guard (V1 x) (.ret ((one (r1L tV)).enc (ta1 x),[])))
theorem Dc8:e7 prog G 30 fc7:=Ja2 (bd b30 Ra4) (one (r1L tV)) (o:=fc6)
def ed0:List (Nat×Sum):=[(30,fc7)]
theorem Sc9:j8 prog G ed0:=⟨Dc8,trivial⟩
def ub7(x:List Int)(y:List (List V3)):ROq:=let t1:=(ta1 2);(sl (V1 2) (sl (V1 2) (some ((.agg [(.v (.string ⟨#[99]⟩)),eL tV t1,eL (tLs tV) y,eL tV t1,eL tI x,i 0,(.tree 3 1 (λk=>j9 [[i 0,i 0,i (-1)]] (0+k)))]),[])) none) none)
def C8(x:List Int)(y:List (List V3)):Tol:=G5 (one r1T) (ub7 x y)
def C9(x:List Int)(y:List (List V3)):Bool:=okO (one r1T) (ub7 x y)
def jc6:Sum:=fa5 (Oa4 tI) (Oa4 (tLs tV)) (λx y=>.guard (C9 x y) (.ret ((one r1T).enc (C8 x y),[])))
theorem ed1:e7 prog G 29 jc6:=Lb0 (bd b29 Sc9) (one r1T) (o:=ub7)
def pd4:List (Nat×Sum):=[(16,fc4)]
theorem ed2:j8 prog G pd4:=⟨Dc2,trivial⟩
def Na5(x:Tol)(y:Int)(z:Int):ROq:=let y0:=(⟨x.nm,rt tV x.ou,rt (tLs tV) x.inn,rt tV x.ho,rt tI x.li,x.ru,rt tV x.fo⟩:Tol);let t1:=(Pa9 y0 y);(sl ((okE tV x.ou)&&((okE (tLs tV) x.inn)&&((okE tV x.ho)&&((okE tI x.li)&&((okE tV x.fo)&&true))))) (sl (Qa0 y0 y) (sl (t1.2==(decide (z>=0))) (some ((b (t1.1==(if 0>z then 0 else z))),[])) (some (b false,[]))) none) none)
def Gb9(x:Tol)(y:Int)(z:Int):Bool:=G5 (one r1B) (Na5 x y z)
def Hb0(x:Tol)(y:Int)(z:Int):Bool:=okO (one r1B) (Na5 x y z)
def Id6:Sum:=yc6 cT cI cI (λx y z=>.guard (Hb0 x y z) (.ret ((one r1B).enc (Gb9 x y z),[])))
theorem pd5:e7 prog G 31 Id6:=Ze9 (bd b31 ed2) (one r1B) (o:=Na5)
def tc5:List (Nat×Sum):=[(23,Eb3)]
theorem de3:j8 prog G tc5:=⟨tb3,trivial⟩
structure gb3 where
 mb5:ByteArray
 Ga1:List V3
 N4:List (List V3)
 Ga2:List V3
 J7:List Int
 mb6:Int
 Ga3:List V3
 yc1:ByteArray
 ed8:List V3
 Hb5:List (List V3)
 ed9:List V3
 bc2:List Int
 de9:Int
 fd0:List V3
def Dc9(p:gb3)(s:O6):St:=⟨.unk::.unk::.ptr 0 0 0 0::.ptr 1 0 0 0::.unk::i s.is5::ra 92 [],[bq 0 7 [[.v (.string p.mb5),eL tV p.Ga1,eL (tLs tV) p.N4,eL tV p.Ga2,eL tI p.J7,i p.mb6,eL tV p.Ga3]],bq 0 7 [[.v (.string p.yc1),eL tV p.ed8,eL (tLs tV) p.Hb5,eL tV p.ed9,eL tI p.bc2,i p.de9,eL tV p.fd0]]]⟩
def gb4{α:Type}(k:O6->α)(e:Nat->α)(z:α)(p:gb3)(s:O6):α:=let y1:=(gL (tLs tV) p.Hb5 s.is5.toNat);let y0:=(gL (tLs tV) p.N4 s.is5.toNat);let t1:=(K5 (rt tV y0) (rt tV y1));(sl (decide (s.is5<(↑(List.length p.N4):Int))) (sl (inB s.is5 (List.length p.N4)) (sl (inB s.is5 (List.length p.Hb5)) (sl (okE tV y0) (sl (okE tV y1) (sl (K6 (rt tV y0) (rt tV y1)) (sl (!t1) (e 1) (k ⟨W (s.is5+1)⟩)) z) z) z) z) z) (e 2))
def Fa9(p:gb3)(s:O6):Stp O6:=gb4 .next .exit .fail p s
def fc8:Lo gb3 O6:=⟨En tc5,0,Cf6,[1,1,0,1,4,4],[2,3,5],.p,[⟨sUq::sUq::sPq 0::sPq 1::sUq::sIq::ru2 92 [],[⟨0,7,true,some [[.o .val,.c 3 (nL tV),.c 1 (nL (tLs tV)),.c 3 (nL tV),.c 1 (nL tI),.o (.int .i64),.c 3 (nL tV)]]⟩,⟨0,7,true,some [[.o .val,.c 3 (nL tV),.c 1 (nL (tLs tV)),.c 3 (nL tV),.c 1 (nL tI),.o (.int .i64),.c 3 (nL tV)]]⟩],λa H=>(⟨Z9 (slT (rwT (elT H 0) 0) 0),hLq tV H 0 0 1,hLq (tLs tV) H 0 0 2,hLq tV H 0 0 3,hLq tI H 0 0 4,hIq H 0 0 5,hLq tV H 0 0 6,Z9 (slT (rwT (elT H 1) 0) 0),hLq tV H 1 0 1,hLq (tLs tV) H 1 0 2,hLq tV H 1 0 3,hLq tI H 1 0 4,hIq H 1 0 5,hLq tV H 1 0 6⟩,⟨aIq a 5⟩)⟩],Fa9,[(none,λp s=>⟨[b false],[]⟩),(some 0,λp s=>upq (Dc9 p s) [(61,i s.is5),(62,.ptr 0 0 2 0),(63,eL (tLs tV) p.N4),(64,i (↑(List.length p.N4):Int)),(65,b (decide (s.is5<(↑(List.length p.N4):Int))))])],Dc9⟩
theorem Nd1:fc8.Ok:=Qki [] .nil λp s=>(.ofq @gb4)
def Ec0(p:gb3)(s:Y7):St:=⟨.unk::.unk::.ptr 0 0 0 0::.ptr 1 0 0 0::.unk::.unk::i s.is6::ra 91 [],[bq 0 7 [[.v (.string p.mb5),eL tV p.Ga1,eL (tLs tV) p.N4,eL tV p.Ga2,eL tI p.J7,i p.mb6,eL tV p.Ga3]],bq 0 7 [[.v (.string p.yc1),eL tV p.ed8,eL (tLs tV) p.Hb5,eL tV p.ed9,eL tI p.bc2,i p.de9,eL tV p.fd0]]]⟩
def gb6{α:Type}(k:Y7->α)(e:Nat->α)(z:α)(p:gb3)(s:Y7):α:=(sl (decide (s.is6<(↑(List.length p.J7):Int))) (sl (inB s.is6 (List.length p.J7)) (sl (inB s.is6 (List.length p.bc2)) (sl ((gL tI p.J7 s.is6.toNat) != (gL tI p.bc2 s.is6.toNat)) (e 1) (k ⟨W (s.is6+1)⟩)) z) z) (e 2))
def Ga0(p:gb3)(s:Y7):Stp Y7:=gb6 .next .exit .fail p s
def fc9:Lo gb3 Y7:=⟨En tc5,0,Cf6,[1,1,1,0,1,4,4],[2,3,6],.p,[⟨sUq::sUq::sPq 0::sPq 1::sUq::sUq::sIq::ru2 91 [],[⟨0,7,true,some [[.o .val,.c 3 (nL tV),.c 1 (nL (tLs tV)),.c 3 (nL tV),.c 1 (nL tI),.o (.int .i64),.c 3 (nL tV)]]⟩,⟨0,7,true,some [[.o .val,.c 3 (nL tV),.c 1 (nL (tLs tV)),.c 3 (nL tV),.c 1 (nL tI),.o (.int .i64),.c 3 (nL tV)]]⟩],λa H=>(⟨Z9 (slT (rwT (elT H 0) 0) 0),hLq tV H 0 0 1,hLq (tLs tV) H 0 0 2,hLq tV H 0 0 3,hLq tI H 0 0 4,hIq H 0 0 5,hLq tV H 0 0 6,Z9 (slT (rwT (elT H 1) 0) 0),hLq tV H 1 0 1,hLq (tLs tV) H 1 0 2,hLq tV H 1 0 3,hLq tI H 1 0 4,hIq H 1 0 5,hLq tV H 1 0 6⟩,⟨aIq a 6⟩)⟩],Ga0,[(none,λp s=>⟨[b false],[]⟩),(some 2,λp s=>upq (Ec0 p s) [(80,i s.is6),(81,.ptr 0 0 4 0),(82,eL tI p.J7),(83,i (↑(List.length p.J7):Int)),(84,b (decide (s.is6<(↑(List.length p.J7):Int))))])],Ec0⟩
theorem Nd2:fc9.Ok:=Qki [] .nil λp s=>(.ofq @gb6)
def Hb1(x:Tol)(y:Tol):ROq:=let y1:=(rt (tLs tV) y.inn);let y0:=(rt (tLs tV) x.inn);let t1:=(K5 (rt tV x.ou) (rt tV y.ou));let t2:=(K5 (rt tV x.ho) (rt tV y.ho));let t3:=(K5 (rt tV x.fo) (rt tV y.fo));let t4:=(lp (Fa9 (⟨x.nm,rt tV x.ou,y0,rt tV x.ho,rt tI x.li,x.ru,rt tV x.fo,y.nm,rt tV y.ou,y1,rt tV y.ho,rt tI y.li,y.ru,rt tV y.fo⟩:gb3)) (⟨0⟩:O6));let t5:=(lp (Ga0 (⟨x.nm,rt tV (rt tV x.ou),rt (tLs tV) y0,rt tV (rt tV x.ho),rt tI (rt tI x.li),x.ru,rt tV (rt tV x.fo),y.nm,rt tV (rt tV y.ou),rt (tLs tV) y1,rt tV (rt tV y.ho),rt tI (rt tI y.li),y.ru,rt tV (rt tV y.fo)⟩:gb3)) (⟨0⟩:Y7));(sl (!(ByteArray.toList x.nm==ByteArray.toList y.nm)) (some (b false,[])) (sl (x.ru != y.ru) (some (b false,[])) (sl ((↑(List.length x.inn):Int) != (↑(List.length y.inn):Int)) (some (b false,[])) (sl ((↑(List.length x.li):Int) != (↑(List.length y.li):Int)) (some (b false,[])) (sl (okE tV x.ou) (sl (okE tV y.ou) (sl (K6 (rt tV x.ou) (rt tV y.ou)) (sl (!t1) (some (b false,[])) (sl (okE tV x.ho) (sl (okE tV y.ho) (sl (K6 (rt tV x.ho) (rt tV y.ho)) (sl (!t2) (some (b false,[])) (sl (okE tV x.fo) (sl (okE tV y.fo) (sl (K6 (rt tV x.fo) (rt tV y.fo)) (sl (!t3) (some (b false,[])) (sl ((cnE tV x.ou)&&((cnE (tLs tV) x.inn)&&((cnE tV x.ho)&&((cnE tI x.li)&&((cnE tV x.fo)&&((cnE tV y.ou)&&((cnE (tLs tV) y.inn)&&((cnE tV y.ho)&&((cnE tI y.li)&&((cnE tV y.fo)&&true)))))))))) (sl (Nat.beq t4.1 1) (some (b false,[])) (sl (Nat.beq t4.1 2) (sl ((cnE tV (rt tV x.ou))&&((cnE (tLs tV) y0)&&((cnE tV (rt tV x.ho))&&((cnE tI (rt tI x.li))&&((cnE tV (rt tV x.fo))&&((cnE tV (rt tV y.ou))&&((cnE (tLs tV) y1)&&((cnE tV (rt tV y.ho))&&((cnE tI (rt tI y.li))&&((cnE tV (rt tV y.fo))&&true)))))))))) (sl (Nat.beq t5.1 1) (some (b false,[])) (sl (Nat.beq t5.1 2) (some (b true,[])) none)) none) none)) none)) none) none) none)) none) none) none)) none) none) none)))))
def Ic5(x:Tol)(y:Tol):Bool:=G5 (one r1B) (Hb1 x y)
def Ic6(x:Tol)(y:Tol):Bool:=okO (one r1B) (Hb1 x y)
def Ae2:Sum:=fa5 cT cT (λx y=>.guard (Ic6 x y) (.ret ((one r1B).enc (Ic5 x y),[])))
theorem qe6:e7 prog G 20 Ae2:=Wc6 (bd b20 de3) (one r1B) (o:=Hb1) λx y=>O4 (.s .p (.s .p (.s (.s .p (.b (.u fc8.ls))) (.s (.s .p (.b (.u fc9.ls))) .p)))) [fc8.pr,fc9.pr] (.cons Nd1 (.cons Nd2 .nil))
theorem gf1{α:Type}{f:Nat}{c:Cod α}{k kA:α->DT (a7×List b7)}(hA:e7 prog G f (G4 c kA))(h:∀a r,(k a).run=some r->(kA a).run=some r):e7 prog G f (G4 c k) :=
 He4 hA hA λa r hr=>.inl (h a r hr)
theorem Tc0{α:Type}{x:Option α}{k kA:α->DT (a7×List b7)}{r:a7×List b7}(h:∀a,x=some a->(k a).run=some r->(kA a).run=some r)(he:(onO x k).run=some r):(onO x kA).run=some r:=by
 cases x with
 |none=>cases he
 |some a=>exact h a rfl he
theorem ac6{g:Bool}{k kA:DT (a7×List b7)}{r:a7×List b7}(h:k.run=some r->kA.run=some r)(he:(DT.guard g k).run=some r):(DT.guard g kA).run=some r:=by
 cases g with
 |false=>cases he
 |true=>exact h he
theorem Tc1{α β:Type}{f:Nat}{c:Cod α}{d:Cod β}{k kA:α->β->DT (a7×List b7)}(hA:e7 prog G f (fa5 c d kA))(h:∀a b r,(k a b).run=some r->(kA a b).run=some r):e7 prog G f (fa5 c d k):=λargs blks r out he=>by
 refine hA args blks r out ?_;unfold fa5 at he ⊢
 split at he
 ·exact Tc0 (λa _ he=>Tc0 (λb _ he=>ac6 (ac6 (h a b _)) he) he) he
 ·cases he
theorem gf2{α β γ:Type}{f:Nat}{c:Cod α}{d:Cod β}{e:Cod γ}{k kA:α->β->γ->DT (a7×List b7)}(hA:e7 prog G f (yc6 c d e kA))(h:∀a b g r,(k a b g).run=some r->(kA a b g).run=some r):e7 prog G f (yc6 c d e k):=λargs blks r out he=>by
 refine hA args blks r out ?_;unfold yc6 at he ⊢
 split at he
 ·exact Tc0 (λa _ he=>Tc0 (λb _ he=>Tc0 (λg _ he=>ac6 (ac6 (ac6 (h a b g _))) he) he) he) he
 ·cases he
def E13(x:Tol):Int:=bif Nat.beq (x.nm.data.toList.headD 0).toNat 67 then 10 else bif Nat.beq x.fo.length 0 then 2 else bif x.ru==3 then 3 else bif x.li==[0] then 3 else bif x.li==[5,5] then 7 else bif ((x.inn.getD 1 []).getD 7 ⟨0,0,0⟩).z==3 then 15 else 0
def W9(x:Tol):Bool:=gb0 x&&(fb9 x==E13 x)
def Ec1:Sum:=G4 cT λx=>.guard (W9 x) (.ret (i (E13 x),[]))
theorem Id7:e7 prog G 13 Ec1:=gf1 Dc1 λx r hr=>by
 obtain⟨hk,hr⟩:=DT.run_guard_some hr;unfold W9 at hk;rw[Qas,beq_iff_eq] at hk;rw[hk.1,hk.2];exact hr
def Ia6(x:Tol)(n m:Int):Bool:=Hb0 x n m&&Gb9 x n m
def jc7:Sum:=yc6 cT cI cI λx n m=>.guard (Ia6 x n m) (.ret (b true,[]))
theorem ed3:e7 prog G 31 jc7:=gf2 pd5 λx n m r hr=>by
 obtain⟨hk,hr⟩:=DT.run_guard_some hr;unfold Ia6 at hk;rw[Qas] at hk;rw[hk.1,hk.2];exact hr
def qe7(x:Tol)(n:Int):Bool:=Nb1 x n&&(sa9 x n).2
def Tc2:Sum:=fa5 cT cI λx n=>.guard (qe7 x n) (.ret ((two r1T r1B).enc ((sa9 x n).1,true),[]))
theorem Nd3:e7 prog G 18 Tc2:=Tc1 ce5 λx n r hr=>by
 obtain⟨hk,hr⟩:=DT.run_guard_some hr;unfold qe7 at hk;rw[Qas] at hk;have e:sa9 x n=((sa9 x n).1,true):=Prod.ext rfl hk.2;rw[hk.1,e];exact hr
def Ud3(x y:Tol):Bool:=Ic6 x y&&Ic5 x y
def id8:Sum:=fa5 cT cT λx y=>.guard (Ud3 x y) (.ret (b true,[]))
theorem de4:e7 prog G 20 id8:=Tc1 qe6 λx n r hr=>by
 obtain⟨hk,hr⟩:=DT.run_guard_some hr;unfold Ud3 at hk;rw[Qas] at hk;rw[hk.1,hk.2];exact hr
def id9(x y:List V3):Bool:=K6 x y&&K5 x y
def jc8:Sum:=fa5 (Oa4 tV) (Oa4 tV) λx y=>.guard (id9 x y) (.ret (b true,[]))
theorem ed4:e7 prog G 23 jc8:=Tc1 tb3 λx n r hr=>by
 obtain⟨hk,hr⟩:=DT.run_guard_some hr;unfold id9 at hk;rw[Qas] at hk;rw[hk.1,hk.2];exact hr
def E21(r:Int):Int:=bif r==9 then 0 else 1
def F21(r:Int):Int:=bif r==9 then 3 else 0
def Hb2(r h:Int):Bool:=Qa1 r h&&((o6 r h).2.2.1==E21 r&&(o6 r h).2.2.2==F21 r)
def Ec2:Sum:=fa5 cI cI λr h=>.guard (Hb2 r h) (.ret ((hb7 (r1L tV) (r1L tV) r1I r1I).enc ((o6 r h).1,(o6 r h).2.1,E21 r,F21 r),[]))
theorem Id8:e7 prog G 21 Ec2:=Tc1 Dc7 λx n r hr=>by
 obtain⟨hk,hr⟩:=DT.run_guard_some hr;unfold Hb2 at hk;rw[Qas,Qas,beq_iff_eq,beq_iff_eq] at hk;have e:o6 x n=((o6 x n).1,(o6 x n).2.1,E21 x,F21 x):=by rw[<- hk.2.1,<- hk.2.2]
 rw[hk.1,e];exact hr
def pd6:List (Nat×Sum):=[(30,fc7),(29,jc6),(13,Ec1),(31,jc7),(18,Tc2),(21,Ec2),(23,jc8),(20,id8)]
theorem ed5:j8 prog G pd6:=⟨Dc8,ed1,Id7,ed3,Nd3,Id8,ed4,de4,trivial⟩
def Na6  : ROq:=let y1:=(V1 2);let t1:=(ta1 2);let t2:=(C8 [5] [rt tV t1]);let y2:=(rt (tLs tV) t2.inn);let t3:=(ta1 1);let y3:=((okE tV t3)&&true);let t4:=(C8 [5,9] [rt tV t1,rt tV t3]);let y0:=(⟨t4.nm,rt tV t4.ou,rt (tLs tV) t4.inn,rt tV t4.ho,rt tI t4.li,t4.ru,rt tV t4.fo⟩:Tol);let t5:=(C8 [0] [rt tV t1]);let t6:=(C8 [5,5] [rt tV t1,rt tV t3]);let t7:=(ta1 3);let t8:=(C8 [5,9] [rt tV t1,rt tV t7]);let t9:=(sa9 y0 6);let t10:=(o6 1 2);let t11:=(o6 5 1);let y4:=(List.length t11.1);let t13:=(C8 [9] [rt tV t3]);let a0:=((okE tV t4.ou)&&((okE (tLs tV) t4.inn)&&((okE tV t4.ho)&&((okE tI t4.li)&&((okE tV t4.fo)&&true)))));let a1:=((okE tV t2.ou)&&((okE (tLs tV) t2.inn)&&((okE tV t2.ho)&&((okE tI t2.li)&&((okE tV t2.fo)&&true)))));(sl y1 (sl ((okE tV t1)&&true) (sl (C9 [5] [rt tV t1]) (sl y1 (sl (V1 1) (sl ((okE tV t1)&&y3) (sl (C9 [5,9] [rt tV t1,rt tV t3]) (sl a1 (sl (W9 (⟨t2.nm,rt tV t2.ou,y2,rt tV t2.ho,rt tI t2.li,t2.ru,rt tV t2.fo⟩:Tol)) (sl a1 (sl (W9 (⟨⟨#[67]⟩,rt tV t2.ou,y2,rt tV t2.ho,rt tI t2.li,t2.ru,rt tV t2.fo⟩:Tol)) (sl ((okE tV t2.ou)&&((okE (tLs tV) t2.inn)&&((okE tV t2.ho)&&((okE tI t2.li)&&(true&&true))))) (sl (W9 (⟨t2.nm,rt tV t2.ou,y2,rt tV t2.ho,rt tI t2.li,t2.ru,[]⟩:Tol)) (sl a1 (sl (W9 (⟨t2.nm,rt tV t2.ou,y2,rt tV t2.ho,rt tI t2.li,3,rt tV t2.fo⟩:Tol)) (sl y1 (sl ((okE tV t1)&&true) (sl (C9 [0] [rt tV t1]) (sl ((okE tV t5.ou)&&((okE (tLs tV) t5.inn)&&((okE tV t5.ho)&&((okE tI t5.li)&&((okE tV t5.fo)&&true))))) (sl (W9 (⟨t5.nm,rt tV t5.ou,rt (tLs tV) t5.inn,rt tV t5.ho,rt tI t5.li,t5.ru,rt tV t5.fo⟩:Tol)) (sl a0 (sl (W9 y0) (sl y1 (sl (V1 1) (sl ((okE tV t1)&&y3) (sl (C9 [5,5] [rt tV t1,rt tV t3]) (sl ((okE tV t6.ou)&&((okE (tLs tV) t6.inn)&&((okE tV t6.ho)&&((okE tI t6.li)&&((okE tV t6.fo)&&true))))) (sl (W9 (⟨t6.nm,rt tV t6.ou,rt (tLs tV) t6.inn,rt tV t6.ho,rt tI t6.li,t6.ru,rt tV t6.fo⟩:Tol)) (sl y1 (sl (V1 3) (sl ((okE tV t1)&&((okE tV t7)&&true)) (sl (C9 [5,9] [rt tV t1,rt tV t7]) (sl ((okE tV t8.ou)&&((okE (tLs tV) t8.inn)&&((okE tV t8.ho)&&((okE tI t8.li)&&((okE tV t8.fo)&&true))))) (sl (W9 (⟨t8.nm,rt tV t8.ou,rt (tLs tV) t8.inn,rt tV t8.ho,rt tI t8.li,t8.ru,rt tV t8.fo⟩:Tol)) (sl a0 (sl (Ia6 y0 0 0) (sl a0 (sl (Ia6 y0 4 0) (sl a0 (sl (Ia6 y0 5 1) (sl a0 (sl (Ia6 y0 9 (-1)) (sl a0 (sl (Ia6 y0 (-1) (-1)) (sl a0 (sl (qe7 y0 6) (sl (Hb2 1 2) (sl (Hb2 5 1) (sl (Hb2 9 1) (sl (okE tV t10.1) (sl (id9 (rt tV t10.1) [(⟨-1,0,0⟩:V3),(⟨-1,0,2⟩:V3),(⟨0,-1,0⟩:V3),(⟨0,-1,2⟩:V3),(⟨0,1,0⟩:V3),(⟨0,1,2⟩:V3),(⟨1,0,0⟩:V3),(⟨1,0,2⟩:V3)]) (sl (okE tV t10.2.1) (sl (id9 (rt tV t10.2.1) [(⟨-1,-1,0⟩:V3),(⟨-1,-1,2⟩:V3),(⟨-1,1,0⟩:V3),(⟨-1,1,2⟩:V3),(⟨1,-1,0⟩:V3),(⟨1,-1,2⟩:V3),(⟨1,1,0⟩:V3),(⟨1,1,2⟩:V3)]) (sl (V1 1) (sl y3 (sl (C9 [9] [rt tV t3]) (sl ((okE tV t9.1.ou)&&((okE (tLs tV) t9.1.inn)&&((okE tV t9.1.ho)&&((okE tI t9.1.li)&&((okE tV t9.1.fo)&&true))))) (sl ((okE tV t13.ou)&&((okE (tLs tV) t13.inn)&&((okE tV t13.ho)&&((okE tI t13.li)&&((okE tV t13.fo)&&true))))) (sl (Ud3 (⟨t9.1.nm,rt tV t9.1.ou,rt (tLs tV) t9.1.inn,rt tV t9.1.ho,rt tI t9.1.li,t9.1.ru,rt tV t9.1.fo⟩:Tol) (⟨t13.nm,rt tV t13.ou,rt (tLs tV) t13.inn,rt tV t13.ho,rt tI t13.li,t13.ru,rt tV t13.fo⟩:Tol)) (sl ((↑y4:Int)==16) (sl (inB 0 y4) (sl (((gL tV t11.1 0).x==(-5))&&(((gL tV t11.1 0).y==0)&&(((gL tV t11.1 0).z==0)&&true))) (sl (inB 2 y4) (sl (((gL tV t11.1 2).x==(-3))&&(((gL tV t11.1 2).y==(-3))&&(((gL tV t11.1 2).z==0)&&true))) (sl ((↑(List.length t11.2.1):Int)==16) (sl (inB 0 (List.length t11.2.1)) (some (b (((gL tV t11.2.1 0).x==(-5))&&(((gL tV t11.2.1 0).y==(-3))&&(((gL tV t11.2.1 0).z==0)&&true))),[])) none) (some (b false,[]))) (some (b false,[]))) none) (some (b false,[]))) none) (some (b false,[]))) none) none) none) none) none) none) none) none) none) none) none) none) none) none) none) none) none) none) none) none) none) none) none) none) none) none) none) none) none) none) none) none) none) none) none) none) none) none) none) none) none) none) none) none) none) none) none) none) none) none) none) none) none) none) none) none) none) none) none)
def gb7  : Bool:=G5 (one r1B) Na6
def gb8  : Bool:=okO (one r1B) Na6
def tc6:Sum:=ve2  (.guard gb8 (.ret ((one r1B).enc gb7,[])))
theorem pd7:e7 prog G 9 tc6:=Sf5 (bd b9 ed5) (one r1B) (o:=Na6) (ka3 (by kernel_rfl))
structure I2 where
 i0:Int
 i1:Int
def tK:Ty I2 where
 es:=2
 row x:=[i x.i0,i x.i1]
 rd r:=⟨toI (hdA r),toI (hdA (tlA r))⟩
 ok r:=Go.Ev.L.Bb3 2 r
 cks:=List.replicate 2 (.int .i64)
 d:=⟨0,0⟩
 h0 _:=rfl
 h1 _:=rfl
 h2 _:=rfl
 h3 _ h:=.of (Go.Ev.L.ib7 h)
 h4 _:=rfl
 h5 _:=rfl
def Ec3:List (Nat×Sum):=[(84,Cc8)]
theorem Id9:j8 prog G Ec3:=⟨Gd5,trivial⟩
structure ba4 where
 Ob0:List I2
 is1:Int
structure F9 where
 ph:Nat
 is6:Int
 ns5:Nat
 eh0:List (List a7)
def ac7(p:ba4)(s:F9):St:=⟨eL tK p.Ob0::i p.is1::ra 3 (nlq::i s.is6::ra 40 []),[]⟩
def ac8(p:ba4)(s:F9):St:=⟨eL tK p.Ob0::i p.is1::ra 3 (.sl 0 0 s.ns5 0::i s.is6::ra 40 []),[bq 52 3 s.eh0]⟩
def pd8(p:ba4)(s:F9):St:=(sel (Nat.beq s.ph 1) (ac8 p s) (ac7 p s))
def ac9{α:Type}(k:F9->α)(e:Nat->α)(z:α)(p:ba4)(s:F9):α:=let y1:=(gL tK p.Ob0 s.is6.toNat);let y0:=(inB s.is6 (List.length p.Ob0));(sl (decide (s.is6<(↑(List.length p.Ob0):Int))) (sl y0 (sl y0 (sl y0 (sl y0 (k ⟨1,W (s.is6+1),2,[[i y1.i0,i y1.i1,i 0],[i y1.i0,i y1.i1,i p.is1]]⟩) z) z) z) z) (e 1))
def bc0{α:Type}(k:F9->α)(e:Nat->α)(z:α)(p:ba4)(s:F9):α:=let y1:=(gL tK p.Ob0 s.is6.toNat);let y0:=(inB s.is6 (List.length p.Ob0));(sl (decide (s.is6<(↑(List.length p.Ob0):Int))) (sl y0 (sl y0 (sl y0 (sl y0 (sl (Nat.beq s.ns5 (len s.eh0)&&Nat.ble ((s.ns5+2)*24) room) (k ⟨1,W (s.is6+1),s.ns5+2,app s.eh0 [[i y1.i0,i y1.i1,i 0],[i y1.i0,i y1.i1,i p.is1]]⟩) z) z) z) z) z) (e 2))
def Xa6(p:ba4)(s:F9):Stp F9:=(sel (Nat.beq s.ph 1) (bc0 .next .exit .fail p s) (ac9 .next .exit .fail p s))
def Hb3:Lo ba4 F9:=⟨En Ec3,0,Mf2,[1,1,0,1,4,4],[0,1,5,6],.p,[⟨sLq tK::sIq::ru2 3 (.s (.o .nil)::sIq::ru2 40 []),[],λa H=>(⟨aLq tK a 0,aIq a 1⟩,⟨0,aIq a 6,0,[]⟩)⟩,⟨sLq tK::sIq::ru2 3 (.s (.o (.sl 0 0 (some 0) none))::sIq::ru2 40 []),[⟨52,3,true,none⟩],λa H=>(⟨aLq tK a 0,aIq a 1⟩,⟨1,aIq a 6,slN (slT a 5),elT H 0⟩)⟩],Xa6,[(some 0,λp s=>upq (ac7 p s) [(9,i s.is6),(10,eL tK p.Ob0),(11,i (↑(List.length p.Ob0):Int)),(12,b (decide (s.is6<(↑(List.length p.Ob0):Int))))]),(some 0,λp s=>upq (ac8 p s) [(9,i s.is6),(10,eL tK p.Ob0),(11,i (↑(List.length p.Ob0):Int)),(12,b (decide (s.is6<(↑(List.length p.Ob0):Int))))])],pd8⟩
theorem pd9:Hb3.Ok:=Qki [] .nil λp s=>(.sel (Nat.beq s.ph 1) (.ofq @bc0) (.ofq @ac9))
def Qa2(x:List I2)(y:Int):ROq:=let t1:=(lp (Xa6 (⟨rt tK x,y⟩:ba4)) (⟨0,0,0,[]⟩:F9));let t2:=(mb3 []);let t3:=(mb3 (slR tV t1.2.eh0 0 t1.2.ns5));(sl ((cnE tK x)&&true) (sl (Nat.beq t1.1 1) (sl (mb4 []) (some (eL tV t2.1,[])) none) (sl (Nat.beq t1.1 2) (sl (okS tV t1.2.eh0 0 t1.2.ns5) (sl (mb4 (slR tV t1.2.eh0 0 t1.2.ns5)) (some (eL tV t3.1,[])) none) none) none)) none)
def zb3(x:List I2)(y:Int):List V3:=G5 (one (r1L tV)) (Qa2 x y)
def zb4(x:List I2)(y:Int):Bool:=okO (one (r1L tV)) (Qa2 x y)
def Tc3:Sum:=fa5 (Oa4 tK) cI (λx y=>.guard (zb4 x y) (.ret ((one (r1L tV)).enc (zb3 x y),[])))
theorem Nd4:e7 prog G 55 Tc3:=Wc6 (bd b55 Id9) (one (r1L tV)) (o:=Qa2) λx y=>O4 (.s .p (.s .p (.s (.s .p (.b (.u Hb3.ls))) .p))) [Hb3.pr] (.cons pd9 .nil)
def zb5:List (Nat×Sum):=[(55,Tc3)]
theorem Nd5:j8 prog G zb5:=⟨Nd4,trivial⟩
structure Wa4 where
 (is1 is8:Int)
def tc7(p:Wa4)(s:L9):St:=⟨.unk::i p.is1::ra 6 (i p.is8::i s.is9::i 0::i 0::ra 127 []),[]⟩
def jc9{α:Type}(k:L9->α)(e:Nat->α)(z:α)(p:Wa4)(s:L9):α:=(sl (decide ((W ((W (2*(W (s.is9+1))))*(W (s.is9+1))))<=(W (p.is8*p.is8)))) (k ⟨W (s.is9+1)⟩) (e 1))
def na2(p:Wa4)(s:L9):Stp L9:=jc9 .next .exit .fail p s
def Ub2:Lo Wa4 L9:=⟨En zb5,0,nf6,[1,1,1,1,0,4,4],[1,8,9,10,11],.p,[⟨sUq::sIq::ru2 6 (sIq::sIq::.s (.o (.lit .i64 0))::.s (.o (.lit .i64 0))::ru2 127 []),[],λa H=>(⟨aIq a 1,aIq a 8⟩,⟨aIq a 9⟩)⟩],na2,[(some 0,λp s=>upq (tc7 p s) [(29,i s.is9),(30,i (W (s.is9+1))),(31,i (W (2*(W (s.is9+1))))),(32,i s.is9),(33,i (W (s.is9+1))),(34,i (W ((W (2*(W (s.is9+1))))*(W (s.is9+1))))),(35,i p.is8),(36,i p.is8),(37,i (W (p.is8*p.is8))),(38,b (decide ((W ((W (2*(W (s.is9+1))))*(W (s.is9+1))))<=(W (p.is8*p.is8)))))])],tc7⟩
theorem Jd0:Ub2.Ok:=Qki [] .nil λp s=>(.ofq @jc9)
structure Wa5 where
 (is1 is8 is9:Int)
structure ua6 where
 m9:Int
def tc8(p:Wa5)(s:ua6):St:=⟨.unk::i p.is1::ra 6 (i p.is8::i p.is9::i s.m9::i 0::ra 127 []),[]⟩
def kc0{α:Type}(k:ua6->α)(e:Nat->α)(z:α)(p:Wa5)(s:ua6):α:=(sl (decide ((W ((W (2*p.is8))*p.is8))>(W ((W (p.is8+s.m9))*(W (p.is8+s.m9)))))) (k ⟨W (s.m9+1)⟩) (e 1))
def na3(p:Wa5)(s:ua6):Stp ua6:=kc0 .next .exit .fail p s
def Ub3:Lo Wa5 ua6:=⟨En zb5,0,nf6,[1,1,1,1,1,0,4,4],[1,8,9,10,11],.p,[⟨sUq::sIq::ru2 6 (sIq::sIq::sIq::.s (.o (.lit .i64 0))::ru2 127 []),[],λa H=>(⟨aIq a 1,aIq a 8,aIq a 9⟩,⟨aIq a 10⟩)⟩],na3,[(some 2,λp s=>upq (tc8 p s) [(41,i p.is8),(42,i (W (2*p.is8))),(43,i p.is8),(44,i (W ((W (2*p.is8))*p.is8))),(45,i p.is8),(46,i s.m9),(47,i (W (p.is8+s.m9))),(48,i p.is8),(49,i s.m9),(50,i (W (p.is8+s.m9))),(51,i (W ((W (p.is8+s.m9))*(W (p.is8+s.m9))))),(52,b (decide ((W ((W (2*p.is8))*p.is8))>(W ((W (p.is8+s.m9))*(W (p.is8+s.m9)))))))])],tc8⟩
theorem Jd1:Ub3.Ok:=Qki [] .nil λp s=>(.ofq @kc0)
structure Wa6 where
 (is1 is8 is9 m9:Int)
def tc9(p:Wa6)(s:C0):St:=⟨.unk::i p.is1::ra 6 (i p.is8::i p.is9::i p.m9::i s.bc1::ra 127 []),[]⟩
def kc1{α:Type}(k:C0->α)(e:Nat->α)(z:α)(p:Wa6)(s:C0):α:=(sl (decide ((W ((W (p.is8*p.is8))+(W (p.m9*p.m9))))>(W ((W (p.is8+s.bc1))*(W (p.is8+s.bc1)))))) (k ⟨W (s.bc1+1)⟩) (e 1))
def na4(p:Wa6)(s:C0):Stp C0:=kc1 .next .exit .fail p s
def Ub4:Lo Wa6 C0:=⟨En zb5,0,nf6,[1,1,1,1,1,1,0,4,4],[1,8,9,10,11],.p,[⟨sUq::sIq::ru2 6 (sIq::sIq::sIq::sIq::ru2 127 []),[],λa H=>(⟨aIq a 1,aIq a 8,aIq a 9,aIq a 10⟩,⟨aIq a 11⟩)⟩],na4,[(some 4,λp s=>upq (tc9 p s) [(55,i p.is8),(56,i p.is8),(57,i (W (p.is8*p.is8))),(58,i p.m9),(59,i p.m9),(60,i (W (p.m9*p.m9))),(61,i (W ((W (p.is8*p.is8))+(W (p.m9*p.m9))))),(62,i p.is8),(63,i s.bc1),(64,i (W (p.is8+s.bc1))),(65,i p.is8),(66,i s.bc1),(67,i (W (p.is8+s.bc1))),(68,i (W ((W (p.is8+s.bc1))*(W (p.is8+s.bc1))))),(69,b (decide ((W ((W (p.is8*p.is8))+(W (p.m9*p.m9))))>(W ((W (p.is8+s.bc1))*(W (p.is8+s.bc1)))))))])],tc9⟩
theorem Jd2:Ub4.Ok:=Qki [] .nil λp s=>(.ofq @kc1)
def Ba1(x:Int)(y:Int):ROq:=let y2:=(.tup [nlq,nlq,i 0,i 3],[]);let t1:=(lp (na2 (⟨y,x⟩:Wa4)) (⟨0⟩:L9));let y1:=(W (0-t1.2.is9));let t2:=(lp (na3 (⟨y,x,t1.2.is9⟩:Wa5)) (⟨0⟩:ua6));let y0:=(W (0-t2.2.m9));let t3:=(lp (na4 (⟨y,x,t1.2.is9,t2.2.m9⟩:Wa6)) (⟨0⟩:C0));let t4:=(zb3 [(⟨x,0⟩:I2),(⟨W (0-x),0⟩:I2),(⟨0,x⟩:I2),(⟨0,W (0-x)⟩:I2),(⟨t1.2.is9,t1.2.is9⟩:I2),(⟨t1.2.is9,y1⟩:I2),(⟨y1,t1.2.is9⟩:I2),(⟨y1,y1⟩:I2)] y);let t5:=(zb3 [(⟨x,t2.2.m9⟩:I2),(⟨x,y0⟩:I2),(⟨W (0-x),t2.2.m9⟩:I2),(⟨W (0-x),y0⟩:I2),(⟨t2.2.m9,x⟩:I2),(⟨t2.2.m9,W (0-x)⟩:I2),(⟨y0,x⟩:I2),(⟨y0,W (0-x)⟩:I2)] y);(sl (decide (x<1)) (some y2) (sl (decide (x>8)) (some y2) (sl (decide (y<1)) (some y2) (sl (decide (y>12)) (some y2) (sl (Nat.beq t1.1 1) (sl (Nat.beq t2.1 1) (sl (Nat.beq t3.1 1) (sl (zb4 [(⟨x,0⟩:I2),(⟨W (0-x),0⟩:I2),(⟨0,x⟩:I2),(⟨0,W (0-x)⟩:I2),(⟨t1.2.is9,t1.2.is9⟩:I2),(⟨t1.2.is9,y1⟩:I2),(⟨y1,t1.2.is9⟩:I2),(⟨y1,y1⟩:I2)] y) (sl (zb4 [(⟨x,t2.2.m9⟩:I2),(⟨x,y0⟩:I2),(⟨W (0-x),t2.2.m9⟩:I2),(⟨W (0-x),y0⟩:I2),(⟨t2.2.m9,x⟩:I2),(⟨t2.2.m9,W (0-x)⟩:I2),(⟨y0,x⟩:I2),(⟨y0,W (0-x)⟩:I2)] y) (some (.tup [eL tV t4,eL tV t5,i t3.2.bc1,i 0],[])) none) none) none) none) none)))))
def uc0(x:Int)(y:Int):List V3×List V3×Int×Int:=G5 (hb7 (r1L tV) (r1L tV) r1I r1I) (Ba1 x y)
def uc1(x:Int)(y:Int):Bool:=okO (hb7 (r1L tV) (r1L tV) r1I r1I) (Ba1 x y)
def jd0:Sum:=fa5 cI cI (λx y=>.guard (uc1 x y) (.ret ((hb7 (r1L tV) (r1L tV) r1I r1I).enc (uc0 x y),[])))
theorem de5:e7 prog G 22 jd0:=Wc6 (bd b22 Nd5) (hb7 (r1L tV) (r1L tV) r1I r1I) (o:=Ba1) λx y=>O4 (.s .p (.s .p (.s .p (.s .p (.s (.b (.u Ub2.ls)) (.s (.b (.u Ub3.ls)) (.s (.b (.u Ub4.ls)) .p))))))) [Ub2.pr,Ub3.pr,Ub4.pr] (.cons Jd0 (.cons Jd1 (.cons Jd2 .nil)))
def vb5:List (Nat×Sum):=[(9,tc6),(15,Rd9),(21,Sc6),(22,jd0),(23,Eb3)]
theorem uc2:j8 prog G vb5:=⟨pd7,ye0,Dc7,de5,tb3,trivial⟩
structure ba5 where
 bs5:Bool
 (c9 d9 Nb8 Nb9:Int)
structure E9 where
 Be1:Int
def ib0(p:ba5)(s:E9):St:=⟨ra 5 (b p.bs5::ra 21 (.sl 0 0 2 0::i 2::i s.Be1::ra 45 [])),[bq 44 2 [[i p.c9,i p.d9],[i p.Nb8,i p.Nb9]]]⟩
def ha5{α:Type}(k:E9->α)(e:Nat->α)(z:α)(p:ba5)(s:E9):α:=let y0:=(j9 [[i p.c9,i p.d9],[i p.Nb8,i p.Nb9]] (0+s.Be1.toNat));let y2:=(toI (hdA (i9 y0 0)));let y1:=(toI (hdA (tlA (i9 y0 0))));let t1:=(o6 y2 y1);let t2:=(uc0 y2 y1);let t3:=(K5 (rt tV t1.1) (rt tV t2.1));let t4:=(K5 (rt tV t1.2.1) (rt tV t2.2.1));(sl (decide (s.Be1<2)) (sl (inB s.Be1 2) (sl (((Nat.blt (0+s.Be1.toNat) (len [[i p.c9,i p.d9],[i p.Nb8,i p.Nb9]]))&&(Nat.ble (0+2) (len y0)))&&(bb3 [CK.int .i64,CK.int .i64] (i9 y0 0))) (sl (Qa1 y2 y1) (sl (uc1 y2 y1) (sl (okE tV t1.1) (sl (okE tV t2.1) (sl (K6 (rt tV t1.1) (rt tV t2.1)) (sl (!t3) (e 1) (sl (okE tV t1.2.1) (sl (okE tV t2.2.1) (sl (K6 (rt tV t1.2.1) (rt tV t2.2.1)) (sl (!t4) (e 1) (sl (t1.2.2.1 != t2.2.2.1) (e 1) (sl (t1.2.2.2 != t2.2.2.2) (e 1) (k ⟨W (s.Be1+1)⟩)))) z) z) z)) z) z) z) z) z) z) z) (e 2))
def O1(p:ba5)(s:E9):Stp E9:=ha5 .next .exit .fail p s
def Na7:Lo ba5 E9:=⟨En vb5,0,pf5,[1,1,0,1,4,4],[5,27,28,29],.p,[⟨ru2 5 (sBq::ru2 21 (.s (.o (.sl 0 0 (some 0) (some 2)))::.s (.o (.lit .i64 2))::sIq::ru2 45 [])),[⟨44,2,true,some [[.o (.int .i64),.o (.int .i64)],[.o (.int .i64),.o (.int .i64)]]⟩],λa H=>(⟨aBq a 5,hIq H 0 0 0,hIq H 0 0 1,hIq H 0 1 0,hIq H 0 1 1⟩,⟨aIq a 29⟩)⟩],O1,[(none,λp s=>⟨[b false],[]⟩),(some 0,λp s=>upq (ib0 p s) [(30,b (decide (s.Be1<2)))])],ib0⟩
theorem lc2:Na7.Ok:=Qki [] .nil λp s=>(.ofq @ha5)
def na5(x:Int)(y:Int):ROq:=let t1:=gb7;let t2:=(Yc0 x 11);let t3:=(Yc0 y 15);let t4:=(lp (O1 (⟨t1,x,y,W (t2-1),W (t3-1)⟩:ba5)) (⟨0⟩:E9));(sl gb8 (sl (jb2 x 11) (sl (jb2 y 15) (sl (Nat.beq t4.1 1) (some (b false,[])) (sl (Nat.beq t4.1 2) (some (b t1,[])) none)) none) none) none)
def Ca8(x:Int)(y:Int):Bool:=G5 (one r1B) (na5 x y)
def Ca9(x:Int)(y:Int):Bool:=okO (one r1B) (na5 x y)
def Ic7:Sum:=fa5 cI cI (λx y=>.guard (Ca9 x y) (.ret ((one r1B).enc (Ca8 x y),[])))
theorem zc5:e7 prog G 5 Ic7:=Wc6 (bd b5 uc2) (one r1B) (o:=na5) λx y=>O4 (.s .p (.s .p (.s (.s .p (.b (.u Na7.ls))) .p))) [Na7.pr] (.cons lc2 .nil)
def rsL(q0 q1 q2 q3 q4 q5 q6 q7:I2)(y:Int):List V3:=[⟨q0.i0,q0.i1,0⟩,⟨q0.i0,q0.i1,y⟩,⟨q1.i0,q1.i1,0⟩,⟨q1.i0,q1.i1,y⟩,⟨q2.i0,q2.i1,0⟩,⟨q2.i0,q2.i1,y⟩,⟨q3.i0,q3.i1,0⟩,⟨q3.i0,q3.i1,y⟩,
 ⟨q4.i0,q4.i1,0⟩,⟨q4.i0,q4.i1,y⟩,⟨q5.i0,q5.i1,0⟩,⟨q5.i0,q5.i1,y⟩,⟨q6.i0,q6.i1,0⟩,⟨q6.i0,q6.i1,y⟩,⟨q7.i0,q7.i1,0⟩,⟨q7.i0,q7.i1,y⟩]
section
variable(q0 q1 q2 q3 q4 q5 q6 q7:I2)(y:Int)
def rsS:Nat->F9
 |0=>⟨0,0,0,[]⟩
 |j+1=>⟨1,((j+1:Nat):Int),2*(j+1),bL tV ((rsL q0 q1 q2 q3 q4 q5 q6 q7 y).take (2*(j+1)))⟩
theorem Re1:lp (Xa6 ⟨[q0,q1,q2,q3,q4,q5,q6,q7],y⟩) ⟨0,0,0,[]⟩=(2,rsS q0 q1 q2 q3 q4 q5 q6 q7 y 8) :=
 Wa3 (step:=Xa6 ⟨[q0,q1,q2,q3,q4,q5,q6,q7],y⟩) (mk:=rsS q0 q1 q2 q3 q4 q5 q6 q7 y) 8 (by omega)
  (λj hj=>match j,hj with
   |0,_=>by kernel_rfl
   |1,_=>by kernel_rfl
   |2,_=>by kernel_rfl
   |3,_=>by kernel_rfl
   |4,_=>by kernel_rfl
   |5,_=>by kernel_rfl
   |6,_=>by kernel_rfl
   |7,_=>by kernel_rfl
   |j+8,hj=>by omega) (by kernel_rfl)
theorem gf3:Qa2 [q0,q1,q2,q3,q4,q5,q6,q7] y=some (eL tV (ta7 (rsL q0 q1 q2 q3 q4 q5 q6 q7 y)).1,[]):=by
 have e:=Re1 q0 q1 q2 q3 q4 q5 q6 q7 y;have e1:slR tV (rsS q0 q1 q2 q3 q4 q5 q6 q7 y 8).eh0 0 (rsS q0 q1 q2 q3 q4 q5 q6 q7 y 8).ns5=rsL q0 q1 q2 q3 q4 q5 q6 q7 y:=by kernel_rfl
 have e2:okS tV (rsS q0 q1 q2 q3 q4 q5 q6 q7 y 8).eh0 0 (rsS q0 q1 q2 q3 q4 q5 q6 q7 y 8).ns5=true:=by kernel_rfl
 have hl:(rsL q0 q1 q2 q3 q4 q5 q6 q7 y).length<=1000000:=by show (16:Nat)<=1000000;omega
 have g:mb4 (rsL q0 q1 q2 q3 q4 q5 q6 q7 y)=true:=(qe0 _ hl).g;unfold Qa2;simp only[g8,i5,Qii,f0,e,e1,e2,Hf2 _ hl,g];rfl
theorem gf4:zb3 [q0,q1,q2,q3,q4,q5,q6,q7] y=(ta7 (rsL q0 q1 q2 q3 q4 q5 q6 q7 y)).1/\zb4 [q0,q1,q2,q3,q4,q5,q6,q7] y=true:=by
 have e:Rd (one (r1L tV)) (Qa2 [q0,q1,q2,q3,q4,q5,q6,q7] y) (λq=>q=(ta7 (rsL q0 q1 q2 q3 q4 q5 q6 q7 y)).1):=⟨_,_,gf3 q0 q1 q2 q3 q4 q5 q6 q7 y,Sd4 tV _,rfl⟩
 exact⟨e.p,e.g⟩
end
theorem bg8{r:Int}(y:Int)(h1:1<=r)(h8:r<=8):lp (na2 ⟨y,r⟩) ⟨0⟩=(1,⟨aR r⟩):=by
 have key:∀n:Nat,n<=5->(∀j,j<n->na2 ⟨y,r⟩ ⟨(j:Int)⟩=.next ⟨((j+1:Nat):Int)⟩)->na2 ⟨y,r⟩ ⟨(n:Int)⟩=.exit 1->lp (na2 ⟨y,r⟩) ⟨0⟩=(1,⟨(n:Int)⟩):=λn hn h hf =>
  Wa3 (step:=na2 ⟨y,r⟩) (mk:=λj=>⟨(j:Int)⟩) n (by omega) h hf
 rcases fc5 h1 h8 with rfl|rfl|rfl|rfl|rfl|rfl|rfl|rfl
 ·exact key 0 (by omega) (λj hj=>by omega) (by kernel_rfl)
 ·exact key 1 (by omega) (λj hj=>by (rcases j with _ | j)<;>first | omega | kernel_rfl) (by kernel_rfl)
 ·exact key 2 (by omega) (λj hj=>by (rcases j with _ | _ | j)<;>first | omega | kernel_rfl) (by kernel_rfl)
 ·exact key 2 (by omega) (λj hj=>by (rcases j with _ | _ | j)<;>first | omega | kernel_rfl) (by kernel_rfl)
 ·exact key 3 (by omega) (λj hj=>by (rcases j with _ | _ | _ | j)<;>first | omega | kernel_rfl) (by kernel_rfl)
 ·exact key 4 (by omega) (λj hj=>by (rcases j with _ | _ | _ | _ | j)<;>first | omega | kernel_rfl) (by kernel_rfl)
 ·exact key 4 (by omega) (λj hj=>by (rcases j with _ | _ | _ | _ | j)<;>first | omega | kernel_rfl) (by kernel_rfl)
 ·exact key 5 (by omega) (λj hj=>by (rcases j with _ | _ | _ | _ | _ | j)<;>first | omega | kernel_rfl) (by kernel_rfl)
theorem bg9{r:Int}(y z:Int)(h1:1<=r)(h8:r<=8):lp (na3 ⟨y,r,z⟩) ⟨0⟩=(1,⟨bR r⟩):=by
 have key:∀n:Nat,n<=5->(∀j,j<n->na3 ⟨y,r,z⟩ ⟨(j:Int)⟩=.next ⟨((j+1:Nat):Int)⟩)->na3 ⟨y,r,z⟩ ⟨(n:Int)⟩=.exit 1->lp (na3 ⟨y,r,z⟩) ⟨0⟩=(1,⟨(n:Int)⟩):=λn hn h hf =>
  Wa3 (step:=na3 ⟨y,r,z⟩) (mk:=λj=>⟨(j:Int)⟩) n (by omega) h hf
 rcases fc5 h1 h8 with rfl|rfl|rfl|rfl|rfl|rfl|rfl|rfl
 ·exact key 1 (by omega) (λj hj=>by (rcases j with _ | j)<;>first | omega | kernel_rfl) (by kernel_rfl)
 ·exact key 1 (by omega) (λj hj=>by (rcases j with _ | j)<;>first | omega | kernel_rfl) (by kernel_rfl)
 ·exact key 2 (by omega) (λj hj=>by (rcases j with _ | _ | j)<;>first | omega | kernel_rfl) (by kernel_rfl)
 ·exact key 2 (by omega) (λj hj=>by (rcases j with _ | _ | j)<;>first | omega | kernel_rfl) (by kernel_rfl)
 ·exact key 3 (by omega) (λj hj=>by (rcases j with _ | _ | _ | j)<;>first | omega | kernel_rfl) (by kernel_rfl)
 ·exact key 3 (by omega) (λj hj=>by (rcases j with _ | _ | _ | j)<;>first | omega | kernel_rfl) (by kernel_rfl)
 ·exact key 3 (by omega) (λj hj=>by (rcases j with _ | _ | _ | j)<;>first | omega | kernel_rfl) (by kernel_rfl)
 ·exact key 4 (by omega) (λj hj=>by (rcases j with _ | _ | _ | _ | j)<;>first | omega | kernel_rfl) (by kernel_rfl)
theorem cg0{r:Int}(y z:Int)(h1:1<=r)(h8:r<=8):lp (na4 ⟨y,r,z,bR r⟩) ⟨0⟩=(1,⟨1⟩):=by
 have key:(∀j,j<1->na4 ⟨y,r,z,bR r⟩ ⟨((j:Nat):Int)⟩=.next ⟨((j+1:Nat):Int)⟩)->na4 ⟨y,r,z,bR r⟩ ⟨((1:Nat):Int)⟩=.exit 1->lp (na4 ⟨y,r,z,bR r⟩) ⟨0⟩=(1,⟨1⟩):=λh hf =>
  Wa3 (step:=na4 ⟨y,r,z,bR r⟩) (mk:=λj=>⟨(j:Int)⟩) 1 (by omega) h hf
 rcases fc5 h1 h8 with rfl|rfl|rfl|rfl|rfl|rfl|rfl|rfl
 all_goals exact key (λj hj=>by (rcases j with _ | j)<;>first | omega | kernel_rfl) (by kernel_rfl)
theorem Ud4{l d:List V3}(hc:P9 l=0)(h48:d.length<=48)(hm:∀v,v∈d↔v∈l):ta7 d=ta7 l:=by
 obtain⟨_,hl,a,c,k,v,ha,hk,hkk,hv,hne⟩:=ya4 hc;have hd:d.all inV=true:=Qcb.2 λv hv=>Qcb.1 hl v ((hm v).1 hv)
 have hcd:P9 d=0:=Ab0 h48 hd ⟨a,c,k,v,(hm _).2 ha,(hm _).2 hk,(hm _).2 hkk,(hm _).2 hv,hne⟩;unfold ta7;rw[if_pos hc,if_pos hcd,qe4 hd hm]
section
variable{r h:Int}(h1:1<=r)(h8:r<=8)(k1:1<=h)(k2:h<=12)
include h1 h8 k1 k2
theorem gf5:ta7 (rsL ⟨r,0⟩ ⟨W (0-r),0⟩ ⟨0,r⟩ ⟨0,W (0-r)⟩ ⟨aR r,aR r⟩ ⟨aR r,W (0-aR r)⟩ ⟨W (0-aR r),aR r⟩ ⟨W (0-aR r),W (0-aR r)⟩ h)=ta7 (inA r h):=by
 have hb:=abR h1 h8;refine Ud4 (de2 h1 h8 k1 k2) (by show (16:Nat)<=48;omega) λv=>?_
 rw[Ae1 h1 h8 k1 k2];have e:∀n:Int,-100<=n/\n<=100->W n=n:=λn hn=>eb6 (by omega) (by omega)
 rw[e (0-r) (by omega),e (0-aR r) (by omega)]
 unfold rsL Oct;obtain⟨p,q,s⟩:=v;simp only[Qbi,Qla,or_false,V3.mk.injEq,Int.zero_sub,Int.neg_zero];generalize aR r=a;constructor
 ·intro hh
  rcases hh with hh|hh|hh|hh|hh|hh|hh|hh|hh|hh|hh|hh|hh|hh|hh|hh<;>(obtain⟨rfl,rfl,rfl⟩:=hh;simp)
 ·rintro (⟨hh|hh,hs⟩|⟨hh|hh,hs⟩)<;>obtain⟨h1,h2⟩:=hh<;>rcases h1 with rfl|rfl<;>rcases h2 with rfl|rfl<;>rcases hs with rfl|rfl<;>simp
theorem Re2:ta7 (rsL ⟨r,bR r⟩ ⟨r,W (0-bR r)⟩ ⟨W (0-r),bR r⟩ ⟨W (0-r),W (0-bR r)⟩ ⟨bR r,r⟩ ⟨bR r,W (0-r)⟩ ⟨W (0-bR r),r⟩ ⟨W (0-bR r),W (0-r)⟩ h)=ta7 (Ic4 r h):=by
 have hb:=abR h1 h8;refine Ud4 (Id5 h1 h8 k1 k2) (by show (16:Nat)<=48;omega) λv=>?_
 rw[de1 h1 h8 k1 k2];have e:∀n:Int,-100<=n/\n<=100->W n=n:=λn hn=>eb6 (by omega) (by omega)
 rw[e (0-r) (by omega),e (0-bR r) (by omega)]
 unfold rsL Oct;obtain⟨p,q,s⟩:=v;simp only[Qbi,Qla,or_false,V3.mk.injEq,Int.zero_sub];generalize bR r=a;constructor
 ·intro hh
  rcases hh with hh|hh|hh|hh|hh|hh|hh|hh|hh|hh|hh|hh|hh|hh|hh|hh<;>(obtain⟨rfl,rfl,rfl⟩:=hh;simp)
 ·rintro⟨hh|hh,hs⟩<;>obtain⟨h1,h2⟩:=hh<;>rcases h1 with rfl|rfl<;>rcases h2 with rfl|rfl<;>rcases hs with rfl|rfl<;>simp
theorem gf6:Ba1 r h=some (.tup [eL tV (ta7 (inA r h)).1,eL tV (ta7 (Ic4 r h)).1,i 1,i 0],[]):=by
 unfold Ba1;simp only[bg8 h h1 h8,bg9 h _ h1 h8,cg0 h _ h1 h8,gf4,gf5 h1 h8 k1 k2,Re2 h1 h8 k1 k2,Qij,f0];rw[bf (decide_eq_false (by omega)),bf (decide_eq_false (by omega)),bf (decide_eq_false (by omega)),bf (decide_eq_false (by omega))]
end
theorem Hf8(r h:Int):uc0 r h=o6 r h/\uc1 r h=true/\Qa1 r h=true:=by
 by_cases hb:r<1\/r>8\/h<1\/h>12
 ·have e : Rd (hb7 (r1L tV) (r1L tV) r1I r1I) (Ba1 r h) (fun q => q = ([], [], 0, 3)) := by
   have k:Rd (hb7 (r1L tV) (r1L tV) r1I r1I) (some (.tup [.v (.slice none 0 0),.v (.slice none 0 0),i 0,i 3],[])) (λq=>q=([],[],0,3)):=⟨_,_,rfl,qe5 0 3,rfl⟩
   unfold Ba1;refine Rd.sl (λ_=>k) λc1=>Rd.sl (λ_=>k) λc2=>Rd.sl (λ_=>k) λc3=>Rd.sl (λ_=>k) λc4=>?_
   have c1:=of_decide_eq_false c1;have c2:=of_decide_eq_false c2;have c3:=of_decide_eq_false c3;have c4:=of_decide_eq_false c4;omega
  have q:=tc4 hb;exact⟨e.p.trans q.1.symm,e.g,q.2⟩
 ·have q:=sd4 (r:=r) (h:=h) (by omega) (by omega) (by omega) (by omega)
  have e:Rd (hb7 (r1L tV) (r1L tV) r1I r1I) (Ba1 r h) (λq=>q=((ta7 (inA r h)).1,(ta7 (Ic4 r h)).1,1,0)):=⟨_,_,gf6 (by omega) (by omega) (by omega) (by omega),ce9 _ _ _ _,rfl⟩
  exact⟨e.p.trans q.1.symm,e.g,q.2⟩
theorem Tc4{l d:List V3}(h1:(l.all λv=>d.any λw=>v.x==w.x&&(v.y==w.y&&v.z==w.z))=true)(h2:(d.all λv=>l.any λw=>v.x==w.x&&(v.y==w.y&&v.z==w.z))=true)(v:V3):v∈l↔v∈d:=by
 have k:∀{l d:List V3},(l.all λv=>d.any λw=>v.x==w.x&&(v.y==w.y&&v.z==w.z))=true->v∈l->v∈d:=λ{l d} h hv=>by
  obtain⟨w,hw,e⟩:=Qic.1 (Qcb.1 h v hv);simp only[Qas,beq_iff_eq] at e;obtain⟨a,c,d⟩:=e
  have:v=w:=by cases v;cases w;simp_all
  exact this ▸ hw
 exact⟨k h1,k h2⟩
theorem Tc5{l d e:List V3}(hc:P9 l=0)(hd:d.Pairwise LtV)(hm:∀v,v∈l↔v∈d)(hn:d.filter (kv (F0 d))=e):(ta7 l).1=e:=by
 obtain⟨_,hl,_⟩:=ya4 hc
 have:dis d=d:=Nb5 _ _ (cd1 _) hd λv=>by rw[ec2]
 unfold ta7;rw[if_pos hc,qe4 hl hm];show tb0 (F0 d) d=e;unfold tb0;rw[this,hn]
def gf7:List V3:=[⟨-1,0,0⟩,⟨-1,0,2⟩,⟨0,-1,0⟩,⟨0,-1,2⟩,⟨0,1,0⟩,⟨0,1,2⟩,⟨1,0,0⟩,⟨1,0,2⟩]
def Jd3:List V3:=[⟨-1,-1,0⟩,⟨-1,-1,2⟩,⟨-1,1,0⟩,⟨-1,1,2⟩,⟨1,-1,0⟩,⟨1,-1,2⟩,⟨1,1,0⟩,⟨1,1,2⟩]
def tf3:List V3:=[⟨-5,0,0⟩,⟨-5,0,1⟩,⟨-3,-3,0⟩,⟨-3,-3,1⟩,⟨-3,3,0⟩,⟨-3,3,1⟩,⟨0,-5,0⟩,⟨0,-5,1⟩,⟨0,5,0⟩,⟨0,5,1⟩,⟨3,-3,0⟩,⟨3,-3,1⟩,⟨3,3,0⟩,⟨3,3,1⟩,⟨5,0,0⟩,⟨5,0,1⟩]
def Ie3:List V3:=[⟨-5,-3,0⟩,⟨-5,-3,1⟩,⟨-5,3,0⟩,⟨-5,3,1⟩,⟨-3,-5,0⟩,⟨-3,-5,1⟩,⟨-3,5,0⟩,⟨-3,5,1⟩,⟨3,-5,0⟩,⟨3,-5,1⟩,⟨3,5,0⟩,⟨3,5,1⟩,⟨5,-3,0⟩,⟨5,-3,1⟩,⟨5,3,0⟩,⟨5,3,1⟩]
theorem cg1:(ta7 (inA 1 2)).1=gf7 :=
 Tc5 (d:=[⟨-1,0,0⟩,⟨-1,0,2⟩,⟨0,-1,0⟩,⟨0,-1,2⟩,⟨0,0,0⟩,⟨0,0,2⟩,⟨0,1,0⟩,⟨0,1,2⟩,⟨1,0,0⟩,⟨1,0,2⟩]) (de2 (by omega) (by omega) (by omega) (by omega)) (by simp[LtV]) (Tc4 (by kernel_rfl) (by kernel_rfl)) (by kernel_rfl)
theorem cg2:(ta7 (Ic4 1 2)).1=Jd3 :=
 Tc5 (d:=Jd3) (Id5 (by omega) (by omega) (by omega) (by omega)) (by simp[LtV,Jd3]) (Tc4 (by kernel_rfl) (by kernel_rfl)) (by kernel_rfl)
theorem cg3:(ta7 (inA 5 1)).1=tf3 :=
 Tc5 (d:=tf3) (de2 (by omega) (by omega) (by omega) (by omega)) (by simp[LtV,tf3]) (Tc4 (by kernel_rfl) (by kernel_rfl)) (by kernel_rfl)
theorem cg4:(ta7 (Ic4 5 1)).1=Ie3 :=
 Tc5 (d:=Ie3) (Id5 (by omega) (by omega) (by omega) (by omega)) (by simp[LtV,Ie3]) (Tc4 (by kernel_rfl) (by kernel_rfl)) (by kernel_rfl)
theorem tf4(p:Pln)(v:V3):xb7 ⟨p.n.x,p.n.y,p.n.z,p.b,v.x,v.y,v.z⟩=⟨1,decide (P8 p v>0)⟩:=by
 unfold xb7 ec7;simp only[Rc1,Rc2];rfl
theorem tf5(l:PLq)(v:V3)(hl:l.length<=1000000000) :
  X1 ⟨l,v.x,v.y,v.z⟩=⟨1,if l.any (λp=>decide (P8 p v>0)) then ((l.findIdx (λp=>decide (P8 p v>0)):Nat):Int) else -1⟩:=by
 have h:=ga1 (step:=F8 ⟨l,(l.length:Int),v.x,v.y,v.z⟩) (mk:=λj=>(⟨(j:Int)⟩:fa7)) (c:=λp=>decide (P8 p v>0)) (u:=1) (fin:=2) tP l hl
  (λj hj=>by
   simp only[F8,O0,Int.toNat_natCast,tf4,m8 hj (show l.length<=4611686018427387904 by omega)]
   rw[btD (l0 hj),bt (f7 hj)]
   rfl)
  (by simp only[F8,O0];rw[bfD (k9 (Qia _))]) 0 (Qbw _)
 rw[Qih] at h;unfold X1 pa1;simp only[g8,i5];rw[show (⟨0⟩:fa7)=⟨((0:Nat):Int)⟩ from rfl,h]
 split
 ·simp only[Qar];rfl
 ·rfl
theorem Ie4(l:PLq)(v:V3)(hl:l.length<=1000000000):P4 ⟨l,v.x,v.y,v.z⟩=⟨1,l.any λp=>decide (P8 p v>0)⟩:=by
 unfold P4 fa2;simp only[g8,i5,tf5 l v hl];split
 ·rename_i h;rw[h,show decide (((l.findIdx (λp=>decide (P8 p v>0)):Nat):Int)>=0)=true from decide_eq_true (by omega)];rfl
 ·rename_i h;rw[Qjf] at h;rw[h];rfl
theorem Hf9{l:List V3}(hc:P9 l=0){v:V3}(hv:inV v=true)(hf:∀p∈F0 l,dot p.n v<=p.b):Za1 l v=some (b true,[]):=by
 obtain⟨h48,hl,h4⟩:=ya4 hc;have hne:1<=l.length:=by
  obtain⟨a,ha⟩:=h4.ne;exact Qlc ha
 have hg:mb1 l=true:=decide_eq_true ⟨hne,by omega⟩
 have hp:Fa8 l=(F0 l,0):=by unfold Fa8 Ga9;rw[if_pos hc]
 have hF:=Rc5 h48 hl;have hany:(F0 l).any (λp=>decide (P8 p v>0))=false:=by
  rw[Qbq];intro p hp' hs
  have:=(Qc1 ((Z1 hl p).1 hp').ok hv).1 (of_decide_eq_true hs)
  have:=hf p hp'
  omega
 unfold Za1;simp only[g8,B7,i5,hg,hp,(Rb3 v).1,(Rb3 v).2,hv,Ie4 (F0 l) v (by omega),hany]
 rfl
theorem Ie5{l:List V3}(hc:P9 l=0){v:V3}(hv:inV v=true):Za1 l v=some (b (decide (∀p∈F0 l,dot p.n v<=p.b)),[]):=by
 by_cases hf:∀p∈F0 l,dot p.n v<=p.b
 ·rw[Hf9 hc hv hf,decide_eq_true hf]
 obtain⟨h48,hl,h4⟩:=ya4 hc;have hne:1<=l.length:=by
  obtain⟨a,ha⟩:=h4.ne;exact Qlc ha
 have hg:mb1 l=true:=decide_eq_true ⟨hne,by omega⟩
 have hp:Fa8 l=(F0 l,0):=by unfold Fa8 Ga9;rw[if_pos hc]
 have hF:=Rc5 h48 hl;have hany:(F0 l).any (λp=>decide (P8 p v>0))=true:=by
  rw[Qic];apply Qeb;intro hno;refine hf λp hp'=>?_
  apply Qeb;intro hlt;exact hno ⟨p,hp',decide_eq_true ((Qc1 ((Z1 hl p).1 hp').ok hv).2 (by omega))⟩
 rw[decide_eq_false hf];unfold Za1;simp only[g8,B7,i5,hg,hp,(Rb3 v).1,(Rb3 v).2,hv,Ie4 (F0 l) v (by omega),hany]
 rfl
def qd0(l:List V3)(v:V3):Bool:=(F0 l).all λp=>decide (dot p.n v<=p.b)
theorem qe8{l:List V3}{v:V3}:qd0 l v=true↔∀p∈F0 l,dot p.n v<=p.b:=by
 unfold qd0;rw[Qcb];exact⟨λh p hp=>of_decide_eq_true (h p hp),λh p hp=>decide_eq_true (h p hp)⟩
theorem If0{l:List V3}(hc:P9 l=0){v:V3}(hv:inV v=true):ec8 l v=qd0 l v:=by
 unfold ec8;rw[Ie5 hc hv];show decide _=_;by_cases h:∀p∈F0 l,dot p.n v<=p.b
 ·rw[decide_eq_true h,qe8.2 h]
 ·rw[decide_eq_false h];cases hh:qd0 l v with
  |false=>rfl
  |true=>exact absurd (qe8.1 hh) h
theorem If1{l:List V3}(hc:P9 l=0){v:V3}(hv:inV v=true):ec9 l v=true:=by unfold ec9;rw[Ie5 hc hv];rfl
def byd(n:Int)(v:V3):Bool:=decide ((if v.z>(if v.y>v.x then v.y else v.x) then v.z else (if v.y>v.x then v.y else v.x))>n)||decide ((if v.z<(if v.y<v.x then v.y else v.x) then v.z else (if v.y<v.x then v.y else v.x)) < -n)
def Ae3(l:List V3):Bool:=decide ((l.length:Int)<4)||decide ((l.length:Int)>16)
def shr(n:Int):Bool:=decide (n<1)||decide (n>1048576)
theorem qe9{x y:Bool}:sl x (some (b true,([]:List b7))) (some (b y,[]))=some (b (x||y),[]):=by cases x<;>rfl
theorem If2(l:List V3):Z2 l=Ae3 l:=by unfold Z2 O9;rw[qe9];rfl
theorem If3(l:List V3):Z3 l=true:=by unfold Z3 O9;rw[qe9];rfl
theorem xf7(v:V3)(n:Int)(hn:0<=n/\n<=1000):Ua1 v n=some (b (byd n v),[]):=by
 unfold Ua1;rw[show W (0-n)=-n from by rw[eb6 (by omega) (by omega)];omega,qe9]
 rfl
theorem xf8(v:V3)(n:Int)(hn:0<=n/\n<=1000):Ua2 v n=byd n v:=by unfold Ua2;rw[xf7 v n hn];rfl
theorem xf9(v:V3)(n:Int)(hn:0<=n/\n<=1000):Ua3 v n=true:=by unfold Ua3;rw[xf7 v n hn];rfl
theorem yf0(v:V3):Q5 v=some (b (byd 12 v),[]):=by unfold Q5;simp only[xf8 v 12 (by omega),xf9 v 12 (by omega),f0]
theorem Rf4(v:V3):ca8 v=byd 12 v:=by unfold ca8;rw[yf0];rfl
theorem Rf5(v:V3):ca9 v=true:=by unfold ca9;rw[yf0];rfl
theorem yf1(v:V3):Q6 v=some (b (byd 1000 v),[]):=by unfold Q6;simp only[xf8 v 1000 (by omega),xf9 v 1000 (by omega),f0]
theorem Rf6(v:V3):da0 v=byd 1000 v:=by unfold da0;rw[yf1];rfl
theorem Rf7(v:V3):da1 v=true:=by unfold da1;rw[yf1];rfl
theorem Rf8(n:Int):da2 n=shr n:=by unfold da2 Q7;rw[qe9];rfl
theorem Rf9(n:Int):da3 n=true:=by unfold da3 Q7;rw[qe9];rfl
theorem gf8(l:List V3)(hl:l.length<=1000000):U1 l=some (b (P9 l != 0),[]):=by unfold U1;simp only[g8,B7,Rc3 l hl,Rc4 l hl,f0]
theorem If4(l:List V3)(hl:l.length<=1000000):ga5 l=(P9 l != 0):=by unfold ga5;rw[gf8 l hl];rfl
theorem If5(l:List V3)(hl:l.length<=1000000):ga6 l=true:=by unfold ga6;rw[gf8 l hl];rfl
theorem Re3(l:List (List V3))(hl:l.length<=1000000000):Z4 ⟨l⟩=⟨1,if l.any Ae3 then ((l.findIdx Ae3:Nat):Int) else -1⟩:=by
 have h:=ga1 (step:=J3 ⟨l,(l.length:Int)⟩) (mk:=λj=>(⟨(j:Int)⟩:fa7)) (c:=Ae3) (u:=1) (fin:=2) (tLs tV) l hl
  (λj hj=>by
   simp only[J3,P5,Int.toNat_natCast,g8,B7,If2,If3,m8 hj (by omega)]
   rw[bt (La0 hj),bt (f7 hj)];simp only[f0])
  (by simp only[J3,P5];rw[bf (sa3 (Qia _))]) 0 (Qbw _)
 rw[Qih] at h;unfold Z4 ua0;simp only[g8,i5,Qii,f0];rw[show (⟨0⟩:fa7)=⟨((0:Nat):Int)⟩ from rfl,h]
 split
 ·simp only[Qar];rfl
 ·rfl
theorem Re4(l:List (List V3))(hl:l.length<=1000000000):R8 ⟨l⟩=⟨1,l.any Ae3⟩:=by
 unfold R8 ga9;simp only[g8,i5,Re3 l hl];split
 ·rename_i h;rw[h,show decide (((l.findIdx Ae3:Nat):Int)>=0)=true from decide_eq_true (by omega)];rfl
 ·rename_i h;rw[Qjf] at h;rw[h];rfl
theorem gf9(l:List V3)(hl:l.length<=1000000000):da5 ⟨l⟩=⟨1,if l.any (byd 12) then ((l.findIdx (byd 12):Nat):Int) else -1⟩:=by
 have h:=ga1 (step:=K8 ⟨l,(l.length:Int)⟩) (mk:=λj=>(⟨(j:Int)⟩:fa7)) (c:=byd 12) (u:=1) (fin:=2) tV l hl
  (λj hj=>by
   simp only[K8,R9,Int.toNat_natCast,g8,B7,Rf4,Rf5,m8 hj (by omega)]
   rw[bt (La0 hj),bt (f7 hj)];simp only[f0])
  (by simp only[K8,R9];rw[bf (sa3 (Qia _))]) 0 (Qbw _)
 rw[Qih] at h;unfold da5 za1;simp only[g8,i5,Qii,f0];rw[show (⟨0⟩:fa7)=⟨((0:Nat):Int)⟩ from rfl,h]
 split
 ·simp only[Qar];rfl
 ·rfl
theorem hf0(l:List V3)(hl:l.length<=1000000000):U4 ⟨l⟩=⟨1,l.any (byd 12)⟩:=by
 unfold U4 ma1;simp only[g8,i5,gf9 l hl];split
 ·rename_i h;rw[h,show decide (((l.findIdx (byd 12):Nat):Int)>=0)=true from decide_eq_true (by omega)];rfl
 ·rename_i h;rw[Qjf] at h;rw[h];rfl
theorem hf3(l:List V3)(hl:l.length<=1000000000):da6 ⟨l⟩=⟨1,if l.any (byd 1000) then ((l.findIdx (byd 1000):Nat):Int) else -1⟩:=by
 have h:=ga1 (step:=K9 ⟨l,(l.length:Int)⟩) (mk:=λj=>(⟨(j:Int)⟩:fa7)) (c:=byd 1000) (u:=1) (fin:=2) tV l hl
  (λj hj=>by
   simp only[K9,S1,Int.toNat_natCast,g8,B7,Rf6,Rf7,m8 hj (by omega)]
   rw[bt (La0 hj),bt (f7 hj)];simp only[f0])
  (by simp only[K9,S1];rw[bf (sa3 (Qia _))]) 0 (Qbw _)
 rw[Qih] at h;unfold da6 za4;simp only[g8,i5,Qii,f0];rw[show (⟨0⟩:fa7)=⟨((0:Nat):Int)⟩ from rfl,h]
 split
 ·simp only[Qar];rfl
 ·rfl
theorem hf4(l:List V3)(hl:l.length<=1000000000):U5 ⟨l⟩=⟨1,l.any (byd 1000)⟩:=by
 unfold U5 ma4;simp only[g8,i5,hf3 l hl];split
 ·rename_i h;rw[h,show decide (((l.findIdx (byd 1000):Nat):Int)>=0)=true from decide_eq_true (by omega)];rfl
 ·rename_i h;rw[Qjf] at h;rw[h];rfl
theorem hf5(l:List Int)(hl:l.length<=1000000000):da7 ⟨l⟩=⟨1,if l.any shr then ((l.findIdx shr:Nat):Int) else -1⟩:=by
 have h:=ga1 (step:=L0 ⟨l,(l.length:Int)⟩) (mk:=λj=>(⟨(j:Int)⟩:fa7)) (c:=shr) (u:=1) (fin:=2) tI l hl
  (λj hj=>by
   simp only[L0,S3,Int.toNat_natCast,g8,B7,Rf8,Rf9,m8 hj (by omega)]
   rw[bt (La0 hj),bt (f7 hj)];simp only[f0])
  (by simp only[L0,S3];rw[bf (sa3 (Qia _))]) 0 (Qbw _)
 rw[Qih] at h;unfold da7 za7;simp only[g8,i5,Qii,f0];rw[show (⟨0⟩:fa7)=⟨((0:Nat):Int)⟩ from rfl,h]
 split
 ·simp only[Qar];rfl
 ·rfl
theorem hf6(l:List Int)(hl:l.length<=1000000000):U6 ⟨l⟩=⟨1,l.any shr⟩:=by
 unfold U6 ma7;simp only[g8,i5,hf5 l hl];split
 ·rename_i h;rw[h,show decide (((l.findIdx shr:Nat):Int)>=0)=true from decide_eq_true (by omega)];rfl
 ·rename_i h;rw[Qjf] at h;rw[h];rfl
theorem Re5(l:List (List V3))(hl:l.length<=1000000000)(hq:∀q∈l,q.length<=1000000):Z5 ⟨l⟩=⟨1,if l.any (λl=>P9 l != 0) then ((l.findIdx (λl=>P9 l != 0):Nat):Int) else -1⟩:=by
 have h:=ga1 (step:=J4 ⟨l,(l.length:Int)⟩) (mk:=λj=>(⟨(j:Int)⟩:fa7)) (c:=(λl=>P9 l != 0)) (u:=1) (fin:=2) (tLs tV) l hl
  (λj hj=>by
   have hm:=hq _ (Ga7 (tLs tV) hj);simp only[J4,P6,Int.toNat_natCast,g8,B7,If4 _ hm,If5 _ hm,m8 hj (by omega)]
   rw[bt (La0 hj),bt (f7 hj)];simp only[f0])
  (by simp only[J4,P6];rw[bf (sa3 (Qia _))]) 0 (Qbw _)
 rw[Qih] at h;unfold Z5 ua3;simp only[g8,i5,Qii,f0];rw[show (⟨0⟩:fa7)=⟨((0:Nat):Int)⟩ from rfl,h]
 split
 ·simp only[Qar];rfl
 ·rfl
theorem Re6(l:List (List V3))(hl:l.length<=1000000000)(hq:∀q∈l,q.length<=1000000):S4 ⟨l⟩=⟨1,l.any (λl=>P9 l != 0)⟩:=by
 unfold S4 ha3;simp only[g8,i5,Re5 l hl hq];split
 ·rename_i h;rw[h,show decide (((l.findIdx (λl=>P9 l != 0):Nat):Int)>=0)=true from decide_eq_true (by omega)];rfl
 ·rename_i h;rw[Qjf] at h;rw[h];rfl
structure SzT(x:Tol):Prop where
 inn:x.inn.length<=1000
 li:x.li.length<=1000
 fo:x.fo.length<=1000
 el:∀q∈x.ou::x.ho::x.inn,q.length<=1000000
theorem hf7{c:Bool}{a:Bool}:sl c (some (b a,([]:List b7))) (some (b false,[]))=some (b (c&&a),[]):=by cases c<;>rfl
section
variable(x:Tol)(hs:SzT x)
include hs
theorem tf6:Q8 x=some (.sl 0 0 (x.ou::x.ho::x.inn).length 0,[⟨25,(tLs tV).es,bL (tLs tV) (x.ou::x.ho::x.inn),true,false,0⟩]):=by
 have h0:=hs.inn;have hl:len (l6 (λk=>(tLs tV).row (gL (tLs tV) x.inn k)) (List.range x.inn.length))=x.inn.length:=by rw[Bb2,j6,bL,i8,Qkg]
 unfold Q8;simp only[hl];rw[show (Nat.beq 2 2&&Nat.ble ((2+x.inn.length)*24) room)=true from by rw[Qij,Bool.true_and,Qjj];unfold room;omega,f0,Bb2]
 rw[show (x.ou::x.ho::x.inn).length=2+x.inn.length from by simp only[List.length_cons];omega]
 rfl
theorem yc0:aa8 x=x.ou::x.ho::x.inn/\aa9 x=true:=by
 have e:Rd (one (r1L (tLs tV))) (Q8 x) (λq=>q=x.ou::x.ho::x.inn):=⟨_,_,tf6 x hs,Ef8 (tLs tV) 25 _,rfl⟩
 exact⟨e.p,e.g⟩
theorem ed6:(x.ou::x.ho::x.inn).length<=1000000000:=by have:=hs.inn;simp only[List.length_cons];omega
def re0(x:Tol):Bool:=decide ((x.inn.length:Int)>0)&&(decide ((x.inn.length:Int)<=3)&&(((x.li.length:Int)==(x.inn.length:Int))&&(decide ((x.fo.length:Int)>0)&&(decide ((x.fo.length:Int)<=4)&&!(x.ou::x.ho::x.inn).any Ae3))))
theorem Re7:U2 x=some (b (re0 x),[]):=by
 unfold U2;simp only[g8,B7,i5,(yc0 x hs).1,(yc0 x hs).2,Re4 _ (ed6 x hs),Qii,f0,Qij,hf7];rfl
def re1(x:Tol):Bool:=!(x.ou::x.ho::x.inn).any (λl=>l.any (byd 12))&&(!x.li.any shr&&(decide (x.ru>=0)&&(decide (x.ru<=2)&&!x.fo.any (byd 1000))))
theorem Re8(P:E3)(l:List (List V3))(h1:P.de7=l)(h2:P.m9=(l.length:Int))(hl:l.length<=1000000000)(hq:∀q∈l,q.length<=1000000) :
  (lp (G8 P) ⟨0⟩).1=if l.any (λl=>l.any (byd 12)) then 1 else 2:=by
 have h:=qc5 (step:=G8 P) (mk:=λj=>(⟨(j:Int)⟩:C0)) (c:=λl=>l.any (byd 12)) (u:=1) (fin:=2) (tLs tV) l hl
  (λj hj=>by
   have hm:=hq _ (Ga7 (tLs tV) hj);simp only[G8,X2,Int.toNat_natCast,g8,i5,h1,h2,hf0 _ (show (gL (tLs tV) l j).length<=1000000000 by omega),m8 hj (by omega)]
   rw[bt (La0 hj),bt (f7 hj)];simp only[Qii,f0,Qij])
  (by simp only[G8,X2,h1,h2];rw[bf (sa3 (Qia _))]) 0 (Qbw _)
 rw[Qih] at h;exact h
theorem hf8:X5 x=some (b (re1 x),[]):=by
 have hL:=Re8 x hs (⟨x.ou::x.ho::x.inn,((x.ou::x.ho::x.inn).length:Int),x.nm,x.ou,x.inn,x.ho,x.li,x.ru,x.fo⟩:E3) _ rfl rfl (ed6 x hs) hs.el;have k1:=hf6 x.li (by have:=hs.li;omega)
 have k2:=hf4 x.fo (by have:=hs.fo;omega)
 unfold X5;simp only[g8,B7,i5,(yc0 x hs).1,(yc0 x hs).2,k1,k2,Qii,f0,hL,Qij];unfold re1;cases (x.ou::x.ho::x.inn).any λl=>l.any (byd 12) with
 |true=>rfl
 |false =>
  simp only[hf7];rfl
def Nd6(x:Tol):Bool:=!(x.ou::x.ho::x.inn).any λl=>P9 l != 0
theorem tf7:ba2 x=some (b (Nd6 x),[]):=by
 unfold ba2;simp only[g8,B7,i5,(yc0 x hs).1,(yc0 x hs).2,Re6 _ (ed6 x hs) hs.el,Qii,f0,Qij];rfl
def Wc9(x:Tol):Bool:=!(List.range (x.li.length-1)).any λj=>decide (gL tI x.li j>=gL tI x.li (j+1))
theorem Re9(h0:0<x.li.length):U8 x=some (b (Wc9 x),[]):=by
 have hl:=hs.li;obtain⟨j,h⟩:=sb9 (step:=F4 ⟨((x.li.length-1:Nat):Int),x.nm,x.ou,x.inn,x.ho,x.li,x.ru,x.fo⟩) (mk:=λj=>(⟨(j:Int)⟩:L9)) (x.li.length-1) (λj=>decide (gL tI x.li j>=gL tI x.li (j+1))) 1 2 (by omega)
  (λj hj=>by
   simp only[F4,U7,Int.toNat_natCast,m8 hj (by omega)]
   rw[bt (La0 hj),bt (f7 (show j<x.li.length by omega)),bt (f7 (show j+1<x.li.length by omega))])
  (by simp only[F4,U7];rw[bf (sa3 (Qia _))])
 have h:lp (F4 ⟨((x.li.length-1:Nat):Int),x.nm,x.ou,x.inn,x.ho,x.li,x.ru,x.fo⟩) ⟨0⟩=_:=h;unfold U8;simp only[g8,B7,i5,Qii,f0,h];rw[show inB 1 (x.li.length+1)=true from f7 (j:=1) (by omega),f0]
 unfold Wc9;cases (List.range (x.li.length-1)).any λj=>decide (gL tI x.li j>=gL tI x.li (j+1))<;>rfl
def Jd4(x:Tol)(j:Nat):List V3:=match j with
 |0=>x.ou
 |j+1=>gL (tLs tV) x.inn j
def re2(x:Tol):Bool:=!(List.range x.inn.length).any λj=>(gL (tLs tV) x.inn j).any λv=>!qd0 (Jd4 x j) v
omit hs in
theorem tf8{o:List V3}(hc:P9 o=0){v:V3}(hv:inV v=true):da4 ⟨v.x,v.y,v.z,o⟩=⟨1,!qd0 o v⟩:=by
 have e:(⟨v.x,v.y,v.z⟩:V3)=v:=rfl;unfold da4 ya8;simp only[g8,B7,e,If0 hc hv,If1 hc hv,f0]
omit hs in
theorem hf9(l o:List V3)(hl:l.length<=1000000000)(hc:P9 o=0)(hv:∀v∈l,inV v=true):∃n:Int,da8 ⟨l,o⟩=⟨1,n,o⟩/\(decide (n>=0)=l.any λv=>!qd0 o v):=by
 have h:=ga1 (step:=E4 ⟨l,(l.length:Int)⟩) (mk:=λj=>(⟨(j:Int),o⟩:s6)) (c:=λv=>!qd0 o v) (u:=1) (fin:=2) tV l hl
  (λj hj=>by
   simp only[E4,S5,Int.toNat_natCast,g8,B7,i5,tf8 hc (hv _ (Ga7 tV hj)),m8 hj (by omega)]
   rw[bt (La0 hj),bt (f7 hj)];simp only[Qii,f0,Qij])
  (by simp only[E4,S5];rw[bf (sa3 (Qia _))]) 0 (Qbw _)
 rw[Qih] at h;have h:lp (E4 ⟨l,(l.length:Int)⟩) ⟨0,o⟩=_:=h;unfold da8 Aa1;simp only[g8,i5,Qii,f0,h];by_cases hh:l.any (λv=>!qd0 o v)=true
 ·simp only[hh,if_true];exact⟨_,rfl,by rw[decide_eq_true_eq];omega⟩
 ·rw[Qjf] at hh;simp only[hh];exact⟨_,rfl,rfl⟩
omit hs in
theorem if0(l o:List V3)(hl:l.length<=1000000000)(hc:P9 o=0)(hv:∀v∈l,inV v=true):V0 ⟨l,o⟩=⟨1,l.any λv=>!qd0 o v,o⟩:=by
 obtain⟨n,h1,h2⟩:=hf9 l o hl hc hv;unfold V0 na1;simp only[g8,i5,h1,h2,Qii,f0,Qij]
theorem if1(hsol:Nd6 x=true):X7 x=some (b (re2 x),[]):=by
 have hl:=hs.inn;have hz:∀q∈x.ou::x.ho::x.inn,P9 q=0:=λq hq=>by
  unfold Nd6 at hsol;rw[Qcc,Qbq] at hsol;simpa using hsol q hq
 have hp:∀j,j<=x.inn.length->P9 (Jd4 x j)=0:=λj hj=>by
  cases j with
  |zero=>exact hz _ (by simp[Jd4])
  |succ j=>exact hz _ (by simp only[Jd4,Qbi];exact .inr (.inr (Ga7 (tLs tV) (by omega))))
 obtain⟨j,h⟩:=sb9 (step:=G9 ⟨x.inn,(x.inn.length:Int)⟩) (mk:=λj=>(⟨(j:Int),Jd4 x j⟩:C1)) x.inn.length (λj=>(gL (tLs tV) x.inn j).any λv=>!qd0 (Jd4 x j) v) 1 2 (by omega)
  (λj hj=>by
   have hm:gL (tLs tV) x.inn j∈x.ou::x.ho::x.inn:=by simp only[Qbi];exact .inr (.inr (Ga7 (tLs tV) hj))
   have hin:=Qcb.1 (ya4 (hz _ hm)).2.1;have he:=hs.el _ hm;simp only[G9,X3,Int.toNat_natCast,g8,i5,if0 _ _ (show (gL (tLs tV) x.inn j).length<=1000000000 by omega) (hp j (by omega)) hin,m8 hj (by omega)]
   rw[bt (La0 hj),bt (f7 hj)];simp only[Qii,f0,Qij]
   rfl)
  (by simp only[G9,X3];rw[bf (sa3 (Qia _))])
 have h:lp (G9 ⟨x.inn,(x.inn.length:Int)⟩) ⟨0,x.ou⟩=_:=h;unfold X7;simp only[g8,B7,i5,Qii,f0,h];unfold re2;cases (List.range x.inn.length).any λj=>(gL (tLs tV) x.inn j).any λv=>!qd0 (Jd4 x j) v<;>rfl
end
def tf9:ByteArray:=⟨#[97,98,99,100,101,102,103,104,105,106,107,108,109,110,111,112,113,114,115,116,117,118,119,120,121,122,48,49,50,51,52,53,54,55,56,57]⟩
def re3(s:ByteArray):Bool:=decide ((s.size:Int)>0)&&(decide ((s.size:Int)<=12)&&((He3 s tf9).data.toList==[]))
theorem uf0:(tf9.data.toList.all λb=>decide (b.toNat<128))=true:=by decide +kernel
theorem uf1(x:Tol):ba0 x=some (b (re3 x.nm),[]):=by
 unfold ba0 re3;rw[show (⟨#[97,98,99,100,101,102,103,104,105,106,107,108,109,110,111,112,113,114,115,116,117,118,119,120,121,122,48,49,50,51,52,53,54,55,56,57]⟩:ByteArray)=tf9 from rfl]
 rw[Go.Lib.toList_data,Go.Lib.toList_data];by_cases h0:(x.nm.size:Int)>0
 ·by_cases h1:(x.nm.size:Int)<=12
  ·have hg : pe0 x.nm tf9 = true := by
    unfold pe0;rw[uf0];have a1:Nat.blt 0 x.nm.size=true:=by rw[Qcf];omega
    have a2:Nat.ble x.nm.size 9223372036854775807=true:=by rw[Qjj];omega
    rw[a1,a2];rfl
   rw[decide_eq_true h0,decide_eq_true h1,f0,f0,hg,f0];rfl
  ·rw[decide_eq_true h0,decide_eq_false h1];rfl
 ·rw[decide_eq_false h0];rfl
def Ae4(x:Tol):Int:=bif !re3 x.nm then 10 else bif !re0 x then 2 else bif !re1 x then 3 else bif !Nd6 x then 11 else bif !Wc9 x then 7 else bif !re2 x then 15 else 0
section
variable(x:Tol)(hs:SzT x)
def pb3:n7:=⟨x.nm,x.ou,x.inn,x.ho,x.li,x.ru,x.fo,x.nm,x.ou,x.inn,x.ho,x.li,x.ru,x.fo,x.nm,x.ou,x.inn,x.ho,x.li,x.ru,x.fo,x.nm,x.ou,x.inn,x.ho,x.li,x.ru,x.fo,x.nm,x.ou,x.inn,x.ho,x.li,x.ru,x.fo,x.nm,x.ou,x.inn,x.ho,x.li,x.ru,x.fo⟩
theorem Ae5:r8 (pb3 x) ⟨0⟩=sl (!re3 x.nm) (.exit 1) (.next ⟨1⟩):=by
 have e:ba1 x=re3 x.nm/\sa7 x=true:=by unfold ba1 sa7;rw[uf1 x];exact⟨rfl,rfl⟩
 have e0:(⟨x.nm,x.ou,x.inn,x.ho,x.li,x.ru,x.fo⟩:Tol)=x:=rfl;show Pa3 Stp.next Stp.exit Stp.fail (pb3 x) ⟨0⟩=_;simp only[Pa3,pb3,g8,B7,Qii,e0,e.1,e.2,f0]
include hs in
theorem Se0:r8 (pb3 x) ⟨1⟩=sl (!re0 x) (.exit 2) (.next ⟨2⟩):=by
 have e:U3 x=re0 x/\ha0 x=true:=by unfold U3 ha0;rw[Re7 x hs];exact⟨rfl,rfl⟩
 have e0:(⟨x.nm,x.ou,x.inn,x.ho,x.li,x.ru,x.fo⟩:Tol)=x:=rfl;show Pa4 Stp.next Stp.exit Stp.fail (pb3 x) ⟨1⟩=_;simp only[Pa4,pb3,g8,B7,Qii,e0,e.1,e.2,f0]
include hs in
theorem if2:r8 (pb3 x) ⟨2⟩=sl (!re1 x) (.exit 3) (.next ⟨3⟩):=by
 have e:X6 x=re1 x/\na9 x=true:=by unfold X6 na9;rw[hf8 x hs];exact⟨rfl,rfl⟩
 have e0:(⟨x.nm,x.ou,x.inn,x.ho,x.li,x.ru,x.fo⟩:Tol)=x:=rfl;show Pa5 Stp.next Stp.exit Stp.fail (pb3 x) ⟨2⟩=_;simp only[Pa5,pb3,g8,B7,Qii,e0,e.1,e.2,f0]
include hs in
theorem uf2:r8 (pb3 x) ⟨3⟩=sl (!Nd6 x) (.exit 4) (.next ⟨4⟩):=by
 have e:ba3 x=Nd6 x/\sa8 x=true:=by unfold ba3 sa8;rw[tf7 x hs];exact⟨rfl,rfl⟩
 have e0:(⟨x.nm,x.ou,x.inn,x.ho,x.li,x.ru,x.fo⟩:Tol)=x:=rfl;show Pa6 Stp.next Stp.exit Stp.fail (pb3 x) ⟨3⟩=_;simp only[Pa6,pb3,g8,B7,Qii,e0,e.1,e.2,f0]
include hs in
theorem If6(h0:0<x.li.length):r8 (pb3 x) ⟨4⟩=sl (!Wc9 x) (.exit 5) (.next ⟨5⟩):=by
 have e:U9 x=Wc9 x/\ha4 x=true:=by unfold U9 ha4;rw[Re9 x hs h0];exact⟨rfl,rfl⟩
 have e0:(⟨x.nm,x.ou,x.inn,x.ho,x.li,x.ru,x.fo⟩:Tol)=x:=rfl;show Pa7 Stp.next Stp.exit Stp.fail (pb3 x) ⟨4⟩=_;simp only[Pa7,pb3,g8,B7,Qii,e0,e.1,e.2,f0]
include hs in
theorem Sf0(hsol:Nd6 x=true):r8 (pb3 x) ⟨5⟩=sl (!re2 x) (.exit 6) (.next ⟨6⟩):=by
 have e:X8 x=re2 x/\oa0 x=true:=by unfold X8 oa0;rw[if1 x hs hsol];exact⟨rfl,rfl⟩
 have e0:(⟨x.nm,x.ou,x.inn,x.ho,x.li,x.ru,x.fo⟩:Tol)=x:=rfl;show Pa8 Stp.next Stp.exit Stp.fail (pb3 x) ⟨5⟩=_;simp only[Pa8,pb3,g8,B7,Qii,e0,e.1,e.2,f0]
theorem cg5:r8 (pb3 x) ⟨6⟩=.exit 7:=rfl
include hs
theorem If7:(lp (r8 (pb3 x)) ⟨0⟩).1=(bif !re3 x.nm then 1 else bif !re0 x then 2 else bif !re1 x then 3 else bif !Nd6 x then 4 else bif !Wc9 x then 5 else bif !re2 x then 6 else 7):=by
 have go:∀(n fin:Nat),n<=6->(∀j,j<n->r8 (pb3 x) ⟨j⟩=.next ⟨j+1⟩)->r8 (pb3 x) ⟨n⟩=.exit fin->(lp (r8 (pb3 x)) ⟨0⟩).1=fin:=λn fin hn h hf=>by
  have e:=Wa3 (step:=r8 (pb3 x)) (mk:=λj=>(⟨j⟩:i7)) n (by omega) h hf
  have e:lp (r8 (pb3 x)) ⟨0⟩=(fin,⟨n⟩):=e;rw[e]
 cases b0:re3 x.nm with
 |false =>
  refine go 0 1 (by omega) (λj hj=>?_) (by rw[Ae5 x,b0];rfl)
  omega
 |true =>
  cases b1:re0 x with
  |false =>
   refine go 1 2 (by omega) (λj hj=>?_) (by rw[Se0 x hs,b1];rfl)
   match j,hj with
   |0,_=>rw[Ae5 x,b0];rfl
   |j+1,hj=>omega
  |true =>
   cases b2:re1 x with
   |false =>
    refine go 2 3 (by omega) (λj hj=>?_) (by rw[if2 x hs,b2];rfl)
    match j,hj with
    |0,_=>rw[Ae5 x,b0];rfl
    |1,_=>rw[Se0 x hs,b1];rfl
    |j+2,hj=>omega
   |true =>
    cases b3:Nd6 x with
    |false =>
     refine go 3 4 (by omega) (λj hj=>?_) (by rw[uf2 x hs,b3];rfl)
     match j,hj with
     |0,_=>rw[Ae5 x,b0];rfl
     |1,_=>rw[Se0 x hs,b1];rfl
     |2,_=>rw[if2 x hs,b2];rfl
     |j+3,hj=>omega
    |true =>
     have h0:0<x.li.length:=by
      unfold re0 at b1;simp only[Qas,decide_eq_true_eq,beq_iff_eq] at b1;omega
     cases b4:Wc9 x with
     |false =>
      refine go 4 5 (by omega) (λj hj=>?_) (by rw[If6 x hs h0,b4];rfl)
      match j,hj with
      |0,_=>rw[Ae5 x,b0];rfl
      |1,_=>rw[Se0 x hs,b1];rfl
      |2,_=>rw[if2 x hs,b2];rfl
      |3,_=>rw[uf2 x hs,b3];rfl
      |j+4,hj=>omega
     |true =>
      cases b5:re2 x with
      |false =>
       refine go 5 6 (by omega) (λj hj=>?_) (by rw[Sf0 x hs b3,b5];rfl)
       match j,hj with
       |0,_=>rw[Ae5 x,b0];rfl
       |1,_=>rw[Se0 x hs,b1];rfl
       |2,_=>rw[if2 x hs,b2];rfl
       |3,_=>rw[uf2 x hs,b3];rfl
       |4,_=>rw[If6 x hs h0,b4];rfl
       |j+5,hj=>omega
      |true =>
       refine go 6 7 (by omega) (λj hj=>?_) (cg5 x)
       match j,hj with
       |0,_=>rw[Ae5 x,b0];rfl
       |1,_=>rw[Se0 x hs,b1];rfl
       |2,_=>rw[if2 x hs,b2];rfl
       |3,_=>rw[uf2 x hs,b3];rfl
       |4,_=>rw[If6 x hs h0,b4];rfl
       |5,_=>rw[Sf0 x hs b3,b5];rfl
       |j+6,hj=>omega
theorem uf3:fb8 x=some (i (Ae4 x),[]):=by
 have e:=If7 x hs;unfold pb3 at e;unfold fb8;simp only[g8,i5,Qii,f0,e];unfold Ae4;cases re3 x.nm<;>cases re0 x<;>cases re1 x<;>cases Nd6 x<;>cases Wc9 x<;>cases re2 x<;>rfl
theorem sd5:fb9 x=Ae4 x/\gb0 x=true:=by
 unfold fb9 gb0;rw[uf3 x hs];exact⟨rfl,rfl⟩
end
theorem if3(l:List Int)(u:Int)(hl:l.length<=1000000000):da9 ⟨l,u⟩=⟨1,if l.any (λn=>decide (u<n)) then ((l.findIdx (λn=>decide (u<n)):Nat):Int) else -1⟩:=by
 have h:=ga1 (step:=L2 ⟨l,(l.length:Int),u⟩) (mk:=λj=>(⟨(j:Int)⟩:fa7)) (c:=λn=>decide (u<n)) (u:=1) (fin:=2) tI l hl
  (λj hj=>by
   simp only[L2,S6,Int.toNat_natCast,Fb5,Fb4,m8 hj (by omega)]
   rw[bt (La0 hj),bt (f7 hj)])
  (by simp only[L2,S6];rw[bf (sa3 (Qia _))]) 0 (Qbw _)
 rw[Qih] at h;unfold da9 Aa5;simp only[g8,i5,Qii,f0];rw[show (⟨0⟩:fa7)=⟨((0:Nat):Int)⟩ from rfl,h]
 split
 ·simp only[Qar];rfl
 ·rfl
def ixT(x:Tol)(y:Int):Int:=if x.li.any (λn=>decide (y<n)) then ((x.li.findIdx (λn=>decide (y<n)):Nat):Int) else -1
def grT(x:Tol)(y:Int):Int×Bool:=bif Ae4 x != 0 then (0,false) else bif decide (y<0) then (0,false) else (if 0>ixT x y then 0 else ixT x y,decide (ixT x y>=0))
theorem uf4(x:Tol)(hs:SzT x)(y:Int):gb1 x y=some (.tup [i (grT x y).1,b (grT x y).2],[]):=by
 have e0:(⟨x.nm,x.ou,x.inn,x.ho,x.li,x.ru,x.fo⟩:Tol)=x:=rfl;unfold gb1;simp only[g8,B7,i5,Qii,e0,(sd5 x hs).1,(sd5 x hs).2,if3 x.li y (by have:=hs.li;omega),f0,Qij]
 unfold grT;cases Ae4 x != 0 with
 |true=>rfl
 |false=>cases decide (y<0)<;>rfl
theorem de6(x:Tol)(hs:SzT x)(y:Int):Pa9 x y=grT x y/\Qa0 x y=true:=by
 unfold Pa9 Qa0;rw[uf4 x hs y];exact⟨rfl,rfl⟩
theorem uc3(x:Tol)(hs:SzT x)(y z:Int)(h:((grT x y).2==decide (z>=0))=true)(h2:((grT x y).1==(if 0>z then 0 else z))=true):Ia6 x y z=true:=by
 have e0:(⟨x.nm,x.ou,x.inn,x.ho,x.li,x.ru,x.fo⟩:Tol)=x:=rfl;have e:Na5 x y z=some (b true,[]):=by
  unfold Na5;simp only[g8,B7,Qii,e0,(de6 x hs y).1,(de6 x hs y).2,f0,h,h2]
 unfold Ia6 Gb9 Hb0;rw[e];rfl
theorem Nb6(x:Tol)(hs:SzT x)(h:(Ae4 x==E13 x)=true):W9 x=true:=by
 unfold W9;rw[(sd5 x hs).1,(sd5 x hs).2,h];rfl
theorem If8(x:Tol)(hs:SzT x)(hn:x.nm.size<=1000):Ud3 x x=true:=by
 have hv:∀l:List V3,l.length<=1000000->K5 l l=true/\K6 l l=true:=λl hl=>⟨sd2 l (by omega),sd3 l (by omega)⟩
 have hou:=hv x.ou (hs.el _ (by simp))
 have hho:=hv x.ho (hs.el _ (by simp))
 have hfo:=hv x.fo (by have:=hs.fo;omega)
 have hl0:=hs.inn;have hl1:=hs.li;obtain⟨j0,h0⟩:=sb9 (step:=Fa9 ⟨x.nm,x.ou,x.inn,x.ho,x.li,x.ru,x.fo,x.nm,x.ou,x.inn,x.ho,x.li,x.ru,x.fo⟩) (mk:=λj=>(⟨(j:Int)⟩:O6)) x.inn.length (λ_=>false) 1 2 (by omega)
  (λj hj=>by
   have hm:gL (tLs tV) x.inn j∈x.ou::x.ho::x.inn:=by simp only[Qbi];exact .inr (.inr (Ga7 (tLs tV) hj))
   have he:=hv _ (hs.el _ hm);simp only[Fa9,gb4,Int.toNat_natCast,g8,B7,he.1,he.2,m8 hj (by omega)]
   rw[bt (La0 hj),bt (f7 hj),bt (f7 hj)]
   rfl)
  (by simp only[Fa9,gb4];rw[bf (sa3 (Qia _))])
 obtain⟨j1,h1⟩:=sb9 (step:=Ga0 ⟨x.nm,x.ou,x.inn,x.ho,x.li,x.ru,x.fo,x.nm,x.ou,x.inn,x.ho,x.li,x.ru,x.fo⟩) (mk:=λj=>(⟨(j:Int)⟩:Y7)) x.li.length (λ_=>false) 1 2 (by omega)
  (λj hj=>by
   simp only[Ga0,gb6,Int.toNat_natCast,m8 hj (by omega),bne_self_eq_false]
   rw[bt (La0 hj),bt (f7 hj),bt (f7 hj)])
  (by simp only[Ga0,gb6];rw[bf (sa3 (Qia _))])
 have any0:∀n,(List.range n).any (λ_=>false)=false:=λn=>by rw[Qbq];intro _ _ h;cases h
 rw[any0] at h0 h1;have h0:lp (Fa9 ⟨x.nm,x.ou,x.inn,x.ho,x.li,x.ru,x.fo,x.nm,x.ou,x.inn,x.ho,x.li,x.ru,x.fo⟩) ⟨0⟩=(2,⟨(j0:Int)⟩):=h0;have h1:lp (Ga0 ⟨x.nm,x.ou,x.inn,x.ho,x.li,x.ru,x.fo,x.nm,x.ou,x.inn,x.ho,x.li,x.ru,x.fo⟩) ⟨0⟩=(2,⟨(j1:Int)⟩):=h1;have e:Hb1 x x=some (b true,[]):=by
  unfold Hb1;simp only[g8,B7,i5,Qii,hou.1,hou.2,hho.1,hho.2,hfo.1,hfo.2,h0,h1,bne_self_eq_false,beq_self_eq_true,Bool.not_true,f0,Lc7,Qij];rfl
 unfold Ud3 Ic5 Ic6;rw[e];rfl
def cu(n:Int):List V3:=[⟨0,0,0⟩,⟨0,0,n⟩,⟨0,n,0⟩,⟨0,n,n⟩,⟨n,0,0⟩,⟨n,0,n⟩,⟨n,n,0⟩,⟨n,n,n⟩]
def exT(l:List Int)(y:List (List V3)):Tol:=⟨⟨#[99]⟩,cu 2,y,cu 2,l,0,[⟨0,0,-1⟩]⟩
theorem yf2:ta1 2=cu 2/\V1 2=true:=⟨by kernel_rfl,by kernel_rfl⟩
theorem yf3:ta1 1=cu 1/\V1 1=true:=⟨by kernel_rfl,by kernel_rfl⟩
theorem yf4:ta1 3=cu 3/\V1 3=true:=⟨by kernel_rfl,by kernel_rfl⟩
theorem ex1:C8 [5] [cu 2]=exT [5] [cu 2]/\C9 [5] [cu 2]=true:=⟨by kernel_rfl,by kernel_rfl⟩
theorem ex2:C8 [5,9] [cu 2,cu 1]=exT [5,9] [cu 2,cu 1]/\C9 [5,9] [cu 2,cu 1]=true:=⟨by kernel_rfl,by kernel_rfl⟩
theorem ex3:C8 [0] [cu 2]=exT [0] [cu 2]/\C9 [0] [cu 2]=true:=⟨by kernel_rfl,by kernel_rfl⟩
theorem ex4:C8 [5,5] [cu 2,cu 1]=exT [5,5] [cu 2,cu 1]/\C9 [5,5] [cu 2,cu 1]=true:=⟨by kernel_rfl,by kernel_rfl⟩
theorem ex5:C8 [5,9] [cu 2,cu 3]=exT [5,9] [cu 2,cu 3]/\C9 [5,9] [cu 2,cu 3]=true:=⟨by kernel_rfl,by kernel_rfl⟩
theorem ex6:C8 [9] [cu 1]=exT [9] [cu 1]/\C9 [9] [cu 1]=true:=⟨by kernel_rfl,by kernel_rfl⟩
theorem szT{nm:ByteArray}{y:List (List V3)}{l:List Int}{r:Int}{f:List V3}(h1:y.length<=2)(h2:l.length<=2)(h3:f.length<=2)(h4:∀q∈y,q.length<=8):SzT ⟨nm,cu 2,y,cu 2,l,r,f⟩ :=
 ⟨by show y.length<=1000;omega,by show l.length<=1000;omega,by show f.length<=1000;omega,λq hq=>by
  simp only[Qbi] at hq
  rcases hq with rfl|rfl|hq
  ·show (8:Nat)<=1000000;omega
  ·show (8:Nat)<=1000000;omega
  ·have:=h4 q hq;omega⟩
theorem uf5{n m:Int}:∀q∈[cu n,cu m],q.length<=8:=λq hq=>by
 simp only[Qbi,Qla,or_false] at hq
 rcases hq with rfl|rfl<;>exact Qaf 8
theorem Ud5{n:Int}:∀q∈[cu n],q.length<=8:=λq hq=>by
 simp only[Qbi,Qla,or_false] at hq
 rcases hq with rfl;exact Qaf 8
theorem k1:W9 (exT [5] [cu 2])=true:=Nb6 _ (szT (by simp) (by simp) (by simp) Ud5) (by kernel_rfl)
theorem k2:W9 ⟨⟨#[67]⟩,cu 2,[cu 2],cu 2,[5],0,[⟨0,0,-1⟩]⟩=true:=Nb6 _ (szT (by simp) (by simp) (by simp) Ud5) (by kernel_rfl)
theorem k3:W9 ⟨⟨#[99]⟩,cu 2,[cu 2],cu 2,[5],0,[]⟩=true:=Nb6 _ (szT (by simp) (by simp) (by simp) Ud5) (by kernel_rfl)
theorem k4:W9 ⟨⟨#[99]⟩,cu 2,[cu 2],cu 2,[5],3,[⟨0,0,-1⟩]⟩=true:=Nb6 _ (szT (by simp) (by simp) (by simp) Ud5) (by kernel_rfl)
theorem k5:W9 (exT [0] [cu 2])=true:=Nb6 _ (szT (by simp) (by simp) (by simp) Ud5) (by kernel_rfl)
theorem k6:W9 (exT [5,9] [cu 2,cu 1])=true:=Nb6 _ (szT (by simp) (by simp) (by simp) uf5) (by kernel_rfl)
theorem k7:W9 (exT [5,5] [cu 2,cu 1])=true:=Nb6 _ (szT (by simp) (by simp) (by simp) uf5) (by kernel_rfl)
theorem k8:W9 (exT [5,9] [cu 2,cu 3])=true:=Nb6 _ (szT (by simp) (by simp) (by simp) uf5) (by kernel_rfl)
def ba6:Tol:=exT [5,9] [cu 2,cu 1]
theorem ed7:SzT ba6:=szT (by simp) (by simp) (by simp) uf5
theorem Jd5:Ae4 ba6=0:=by kernel_rfl
theorem gr1:Ia6 ba6 0 0=true:=uc3 _ ed7 _ _ (by unfold grT;rw[Jd5];kernel_rfl) (by unfold grT;rw[Jd5];kernel_rfl)
theorem gr2:Ia6 ba6 4 0=true:=uc3 _ ed7 _ _ (by unfold grT;rw[Jd5];kernel_rfl) (by unfold grT;rw[Jd5];kernel_rfl)
theorem gr3:Ia6 ba6 5 1=true:=uc3 _ ed7 _ _ (by unfold grT;rw[Jd5];kernel_rfl) (by unfold grT;rw[Jd5];kernel_rfl)
theorem gr4:Ia6 ba6 9 (-1)=true:=uc3 _ ed7 _ _ (by unfold grT;rw[Jd5];kernel_rfl) (by unfold grT;rw[Jd5];kernel_rfl)
theorem gr5:Ia6 ba6 (-1) (-1)=true:=uc3 _ ed7 _ _ (by unfold grT;rw[Jd5];kernel_rfl) (by unfold grT;rw[Jd5];kernel_rfl)
theorem gr6:Pa9 ba6 6=(1,true)/\Qa0 ba6 6=true:=by
 have:=de6 ba6 ed7 6
 refine⟨this.1.trans ?_,this.2⟩;unfold grT;rw[Jd5];kernel_rfl
def if4:Z6:=⟨1,1,λk=>(λk=>(tLs tV).row (gL (tLs tV) [cu 2,cu 1] k)) (1+k),1,⟨#[99]⟩,cu 2,[cu 2,cu 1],cu 2,[5,9],0,[⟨0,0,-1⟩],⟨#[]⟩⟩
def if5:Nat->L6
 |0=>⟨0,0,0,[]⟩
 |_=>⟨1,1,1,[[.tree 3 8 λk=>j9 (app [] (l6 (λk=>tV.row (gL tV (cu 1) k)) (List.range 8))) (0+k)]]⟩
theorem uf6:lp (Na3 if4) ⟨0,0,0,[]⟩=(2,if5 1) :=
 Wa3 (step:=Na3 if4) (mk:=if5) 1 (by omega) (λj hj=>by (rcases j with _ | j)<;>first | omega | kernel_rfl) (by kernel_rfl)
theorem If9:∃o,pb2 ba6 6=o/\G5 (two r1T r1B) o=(exT [9] [cu 1],true)/\okO (two r1T r1B) o=true:=by
 have e0:(⟨ba6.nm,ba6.ou,ba6.inn,ba6.ho,ba6.li,ba6.ru,ba6.fo⟩:Tol)=ba6:=rfl;have e1:=uf6;unfold if4 at e1;unfold pb2;simp only[g8,B7,i5,Qii,e0,gr6.1,gr6.2,f0];have e2:(lp (Na3 ⟨1,ba6.inn.length-Int.toNat 1,λk=>(λk=>(tLs tV).row (gL (tLs tV) ba6.inn k)) (Int.toNat 1+k),((ba6.inn.length-Int.toNat 1:Nat):Int),ba6.nm,ba6.ou,ba6.inn,ba6.ho,ba6.li,ba6.ru,ba6.fo,⟨#[]⟩⟩) ⟨0,0,0,[]⟩)=(2,if5 1):=e1
 simp only[e2];exact⟨_,rfl,by kernel_rfl,by kernel_rfl⟩
theorem if6:sa9 ba6 6=(exT [9] [cu 1],true)/\qe7 ba6 6=true:=by
 obtain⟨o,h1,h2,h3⟩:=If9;have e1:sa9 ba6 6=(exT [9] [cu 1],true):=by unfold sa9;rw[h1];exact h2
 have e2:Nb1 ba6 6=true:=by unfold Nb1;rw[h1];exact h3
 refine⟨e1,?_⟩;unfold qe7;rw[e1,e2];rfl
theorem kr1:Hb2 1 2=true/\o6 1 2=(gf7,Jd3,1,0):=by
 have:=sd4 (r:=1) (h:=2) (by omega) (by omega) (by omega) (by omega)
 rw[cg1,cg2] at this;refine⟨?_,this.1⟩;unfold Hb2;rw[this.1,this.2];rfl
theorem kr2:Hb2 5 1=true/\o6 5 1=(tf3,Ie3,1,0):=by
 have:=sd4 (r:=5) (h:=1) (by omega) (by omega) (by omega) (by omega)
 rw[cg3,cg4] at this;refine⟨?_,this.1⟩;unfold Hb2;rw[this.1,this.2];rfl
theorem kr3:Hb2 9 1=true:=by
 have:=tc4 (r:=9) (h:=1) (by omega)
 unfold Hb2;rw[this.1,this.2];rfl
theorem kvr(l:List V3)(hl:l.length<=1000):id9 l l=true:=by unfold id9;rw[sd2 l (by omega),sd3 l (by omega)];rfl
theorem kv1:id9 gf7 [⟨-1,0,0⟩,⟨-1,0,2⟩,⟨0,-1,0⟩,⟨0,-1,2⟩,⟨0,1,0⟩,⟨0,1,2⟩,⟨1,0,0⟩,⟨1,0,2⟩]=true:=kvr gf7 (by simp[gf7])
theorem kv2:id9 Jd3 [⟨-1,-1,0⟩,⟨-1,-1,2⟩,⟨-1,1,0⟩,⟨-1,1,2⟩,⟨1,-1,0⟩,⟨1,-1,2⟩,⟨1,1,0⟩,⟨1,1,2⟩]=true:=kvr Jd3 (by simp[Jd3])
theorem Sf1:Ud3 (exT [9] [cu 1]) (exT [9] [cu 1])=true:=If8 _ (szT (by simp) (by simp) (by simp) Ud5) (by show (1:Nat)<=1000;omega)
theorem re4:Na6=some (b true,[]):=by
 have t2:(⟨(exT [5] [cu 2]).nm,(exT [5] [cu 2]).ou,(exT [5] [cu 2]).inn,(exT [5] [cu 2]).ho,(exT [5] [cu 2]).li,(exT [5] [cu 2]).ru,(exT [5] [cu 2]).fo⟩:Tol)=exT [5] [cu 2]:=rfl;have a2:=k2;have a3:=k3;have a4:=k4;unfold Na6;simp only[g8,B7,Qii,yf3.1,yf3.2,yf2.1,yf2.2,yf4.1,yf4.2,ex1.1,ex1.2,ex2.1,ex2.2,ex3.1,ex3.2,ex4.1,ex4.2,ex5.1,ex5.2,ex6.1,ex6.2,f0];have c1:W9 ⟨(exT [5] [cu 2]).nm,(exT [5] [cu 2]).ou,(exT [5] [cu 2]).inn,(exT [5] [cu 2]).ho,(exT [5] [cu 2]).li,(exT [5] [cu 2]).ru,(exT [5] [cu 2]).fo⟩=true:=k1;have c2:W9 ⟨⟨#[67]⟩,(exT [5] [cu 2]).ou,(exT [5] [cu 2]).inn,(exT [5] [cu 2]).ho,(exT [5] [cu 2]).li,(exT [5] [cu 2]).ru,(exT [5] [cu 2]).fo⟩=true:=k2;have c3:W9 ⟨(exT [5] [cu 2]).nm,(exT [5] [cu 2]).ou,(exT [5] [cu 2]).inn,(exT [5] [cu 2]).ho,(exT [5] [cu 2]).li,(exT [5] [cu 2]).ru,[]⟩=true:=k3;have c4:W9 ⟨(exT [5] [cu 2]).nm,(exT [5] [cu 2]).ou,(exT [5] [cu 2]).inn,(exT [5] [cu 2]).ho,(exT [5] [cu 2]).li,3,(exT [5] [cu 2]).fo⟩=true:=k4;have c5:W9 ⟨(exT [0] [cu 2]).nm,(exT [0] [cu 2]).ou,(exT [0] [cu 2]).inn,(exT [0] [cu 2]).ho,(exT [0] [cu 2]).li,(exT [0] [cu 2]).ru,(exT [0] [cu 2]).fo⟩=true:=k5;have e6:(⟨(exT [5,9] [cu 2,cu 1]).nm,(exT [5,9] [cu 2,cu 1]).ou,(exT [5,9] [cu 2,cu 1]).inn,(exT [5,9] [cu 2,cu 1]).ho,(exT [5,9] [cu 2,cu 1]).li,(exT [5,9] [cu 2,cu 1]).ru,(exT [5,9] [cu 2,cu 1]).fo⟩:Tol)=ba6:=rfl;have c6:W9 ba6=true:=k6;have c7:W9 ⟨(exT [5,5] [cu 2,cu 1]).nm,(exT [5,5] [cu 2,cu 1]).ou,(exT [5,5] [cu 2,cu 1]).inn,(exT [5,5] [cu 2,cu 1]).ho,(exT [5,5] [cu 2,cu 1]).li,(exT [5,5] [cu 2,cu 1]).ru,(exT [5,5] [cu 2,cu 1]).fo⟩=true:=k7;have c8:W9 ⟨(exT [5,9] [cu 2,cu 3]).nm,(exT [5,9] [cu 2,cu 3]).ou,(exT [5,9] [cu 2,cu 3]).inn,(exT [5,9] [cu 2,cu 3]).ho,(exT [5,9] [cu 2,cu 3]).li,(exT [5,9] [cu 2,cu 3]).ru,(exT [5,9] [cu 2,cu 3]).fo⟩=true:=k8;have e9:(⟨(exT [9] [cu 1]).nm,(exT [9] [cu 1]).ou,(exT [9] [cu 1]).inn,(exT [9] [cu 1]).ho,(exT [9] [cu 1]).li,(exT [9] [cu 1]).ru,(exT [9] [cu 1]).fo⟩:Tol)=exT [9] [cu 1]:=rfl;simp only[c1,c2,c3,c4,c5,e6,c6,c7,c8,f0,gr1,gr2,gr3,gr4,gr5,if6.1,if6.2,kr1.1,kr1.2,kr2.1,kr2.2,kr3,kv1,kv2,e9,Sf1];show (_:ROq)=some (b true,[]);rfl
theorem Ae6:gb7=true:=by unfold gb7;rw[re4];rfl
theorem Ae7:gb8=true:=by unfold gb8;rw[re4];rfl
theorem re5(l:List V3):(ta7 l).1.length<=l.length:=qe3 (Id4 l).1 λv hv=>((Id4 l).2.2 v hv).2
theorem Se1(r h:Int):(o6 r h).1.length<=100/\(o6 r h).2.1.length<=100:=by
 by_cases hb:r<1\/r>8\/h<1\/h>12
 ·rw[(tc4 hb).1];simp
 ·rw[(sd4 (r:=r) (h:=h) (by omega) (by omega) (by omega) (by omega)).1]
  have h1:=re5 (inA r h);have h2:=re5 (Ic4 r h);have e1:(inA r h).length=32:=rfl;have e2:(Ic4 r h).length=16:=rfl;exact⟨by show (ta7 (inA r h)).1.length<=100;omega,by show (ta7 (Ic4 r h)).1.length<=100;omega⟩
theorem re6(t:Bool)(a c a2 c2:Int)(j:Nat)(hj:j<2):O1 ⟨t,a,c,a2,c2⟩ ⟨(j:Int)⟩=.next ⟨((j+1:Nat):Int)⟩:=by
 have go : ∀ (x y : Int), toI (hdA (i9 (j9 [[i a, i c], [i a2, i c2]] (0 + (j : Int).toNat)) 0)) = x → toI (hdA (tlA (i9 (j9 [[i a, i c], [i a2, i c2]] (0 + (j : Int).toNat)) 0))) = y →
   ((Nat.blt (0+(j:Int).toNat) (len [[i a,i c],[i a2,i c2]])&&Nat.ble (0+2) (len (j9 [[i a,i c],[i a2,i c2]] (0+(j:Int).toNat))))&&bb3 [CK.int .i64,CK.int .i64] (i9 (j9 [[i a,i c],[i a2,i c2]] (0+(j:Int).toNat)) 0))=true ->
   O1 ⟨t,a,c,a2,c2⟩ ⟨(j:Int)⟩=.next ⟨((j+1:Nat):Int)⟩:=λx y e1 e2 e3=>by
  obtain⟨q1,q2,q3⟩:=Hf8 x y;obtain⟨l1,l2⟩:=Se1 x y;show ha5 Stp.next Stp.exit Stp.fail _ _=_;simp only[ha5,e1,e2,e3,q1,q2,q3,g8,B7,sd2 _ (show (o6 x y).1.length<=1000000000 by omega),sd3 _ (show (o6 x y).1.length<=1000000000 by omega),sd2 _ (show (o6 x y).2.1.length<=1000000000 by omega),sd3 _ (show (o6 x y).2.1.length<=1000000000 by omega),f0,Lc7,Bool.not_true,bne_self_eq_false,m8 hj (by omega)]
  rw[bt (show decide ((j:Int)<2)=true from decide_eq_true (by omega)),bt (f7 hj)]
 match j,hj with
 |0,_=>exact go a c rfl rfl rfl
 |1,_=>exact go a2 c2 rfl rfl rfl
 |j+2,hj=>omega
theorem re7(x y:Int):na5 x y=some (b true,[]):=by
 have e:∀t a c a2 c2,lp (O1 ⟨t,a,c,a2,c2⟩) ⟨0⟩=(2,⟨2⟩):=λt a c a2 c2 =>
  Wa3 (step:=O1 ⟨t,a,c,a2,c2⟩) (mk:=λj=>(⟨(j:Int)⟩:E9)) 2 (by omega) (re6 t a c a2 c2) rfl
 have m1:jb2 x 11=true:=by unfold jb2 Vb8;rfl
 have m2:jb2 y 15=true:=by unfold jb2 Vb8;rfl
 unfold na5;simp only[e,Ae7,Ae6,m1,m2,f0];rfl
theorem Ae8(x y:Int):Ca8 x y=true:=by unfold Ca8;rw[re7];rfl
theorem Ae9(x y:Int):Ca9 x y=true:=by unfold Ca9;rw[re7];rfl
structure B3 where
 b0:Int
 b1:Int
 b2:Int
structure B2 where
 d0:Int
 d1:Int
structure LL where
 u:List Int
 v:List Int
end Go.Ev.Ce
namespace Go.Ev.Ce
open Go Go.Ev Go.Ev.L Go.ChangeShapes Go.RowKit
theorem Ie6{P:Program}{w:World}{ρ:Rho}{H:List b7}{F:Fz}{t:TypeId}{v:Value}{bs:Nat}{r:Reach}(ht:P.underlying t=some (.int .i64))
  (hok:Value.okWide P w r bs t v):∃n:Int,ia5 ρ H F w (i n) v:=by
 unfold Value.okWide at hok;rw[ht] at hok;cases v with
 |int k' n =>
  simp only[Cell.okWide,ht,Cell.ok] at hok;obtain⟨rfl,h⟩:=hok;exact⟨n,.cell (.v _)⟩
 |_=>simp[Cell.okWide,ht,Cell.ok] at hok
end Go.Ev.Ce
