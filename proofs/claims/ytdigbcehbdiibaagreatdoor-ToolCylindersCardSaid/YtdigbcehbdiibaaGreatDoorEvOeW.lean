/- Own work. -/
import Derived.Test.YtdigbcehbdiibaaGreatDoorEvOeA
set_option linter.all false
noncomputable section
def Qka:=@Int.sub_self
def Qkb:=@Int.mul_ne_zero
def Qkc:=@Int.mul_nonpos_of_nonneg_of_nonpos
def Qkd:=@Int.mul_neg_of_pos_of_neg
def Qke:=@Int.add_nonneg
def Qkf:=@Int.le_refl
def Qkg:=@Int.le_total
def Qkh:=@Int.le_trans
def Qki:=@Int.mul_pos_of_neg_of_neg
def Qkj:=@List.nodup_cons
def Qkk:=@List.length_pos_of_mem
def Qkl:=@List.nodup_nil
namespace Go.Ev.Ce
open Go Go.Ev Go.Ev.L Go.Proofs
set_option maxRecDepth 100000
def lb1{α:Type}(kk:Qa9->α)(x:List V3):α:=let y0:=(List.range (List.length x));(sl ((!(Nat.beq (List.length x) 0))&&true) (sl (Nat.beq 0 0&&Nat.ble ((0+(len (m8 (λk=>(tV).row (gL tV x k)) y0)))*24) room) (kk ⟨1,(0+(len (m8 (λk=>(tV).row (gL tV x k)) y0))),(app [] (m8 (λk=>(tV).row (gL tV x k)) y0))⟩) (kk ⟨0,0,[]⟩)) (kk ⟨0,0,[]⟩))
def U1(x:List V3):Qa9:=lb1 (λr=>r) x
def fb0(r:Qa9):DT (a7×List b7):=(xa6 r.alt 1 (.sl 0 0 r.ns0 0,[bq 52 3 r.eh0]) .fail)
def lb2:Sum:=L6 (db5 tV) (λx=>fb0 (U1 x))
theorem cc4:d9 prog G 47 lb2:=fc8 (bd b47 gb5) λx=>ha4 (mEq @lb1 (λr=>(fb0 r).run) x)
def ub9{α:Type}(kk:Qa9->α)(x:List Int):α:=let y0:=(List.range (List.length x));(sl ((!(Nat.beq (List.length x) 0))&&true) (sl (Nat.beq 0 0&&Nat.ble ((0+(len (m8 (λk=>(tI).row (gL tI x k)) y0)))*8) room) (kk ⟨1,(0+(len (m8 (λk=>(tI).row (gL tI x k)) y0))),(app [] (m8 (λk=>(tI).row (gL tI x k)) y0))⟩) (kk ⟨0,0,[]⟩)) (kk ⟨0,0,[]⟩))
def vb0(x:List Int):Qa9:=ub9 (λr=>r) x
def lb3(r:Qa9):DT (a7×List b7):=(xa6 r.alt 1 (.sl 0 0 r.ns0 0,[bq 3 1 r.eh0]) .fail)
def vb1:Sum:=L6 (db5 tI) (λx=>lb3 (vb0 x))
theorem jc1:d9 prog G 48 vb1:=fc8 (bd b48 gb5) λx=>ha4 (mEq @ub9 (λr=>(lb3 r).run) x)
def Ac1:List (Nat×Sum):=[(16,Qb9),(47,lb2),(48,vb1)]
theorem od7:l6 prog G Ac1:=⟨mc3,cc4,jc1,trivial⟩
structure Y3 where
 is6:Int
 We1:Nat
 We2:Nat->List a7
 M8:Int
 db2:ByteArray
 za7:List V3
 M9:List (List V3)
 za8:List V3
 J5:List Int
 db3:Int
 za9:List V3
 ic1:ByteArray
structure L0 where
 ph:Nat
 Uc6:Int
 ns8:Nat
 eh2:List (List a7)
def Tb2(p:Y3)(s:L0):St:=⟨.unk::.unk::.ptr 0 0 0 0::.unk::.ptr 1 0 0 0::.unk::i p.is6::.unk::nlq::ra 14 (.tree 1 p.We1 p.We2::i p.M8::i s.Uc6::ra 30 []),[bq 0 7 [[.v (.string p.db2),eL tV p.za7,eL (tLs tV) p.M9,eL tV p.za8,eL tI p.J5,i p.db3,eL tV p.za9]],bq 0 7 [[.v (.string p.ic1),nlq,nlq,nlq,nlq,i 0,nlq]]]⟩
def Tb3(p:Y3)(s:L0):St:=⟨.unk::.unk::.ptr 0 0 0 0::.unk::.ptr 1 0 0 0::.unk::i p.is6::.unk::.sl 2 0 s.ns8 0::ra 14 (.tree 1 p.We1 p.We2::i p.M8::i s.Uc6::ra 30 []),[bq 0 7 [[.v (.string p.db2),eL tV p.za7,eL (tLs tV) p.M9,eL tV p.za8,eL tI p.J5,i p.db3,eL tV p.za9]],bq 0 7 [[.v (.string p.ic1),nlq,nlq,nlq,nlq,i 0,nlq]],bq 25 1 s.eh2]⟩
def kd7(p:Y3)(s:L0):St:=(sel (Nat.beq s.ph 1) (Tb3 p s) (Tb2 p s))
def Tb4{α:Type}(k:L0->α)(e:Nat->α)(z:α)(p:Y3)(s:L0):α:=let y0:=(p.We2 s.Uc6.toNat);let t1:=(U1 (lsL tV (toN (hdA y0)) (toG (hdA y0))));(sl (decide (s.Uc6<p.M8)) (sl (inB s.Uc6 p.We1) (sl ((Nat.ble 1 (len y0))&&(Ib3 [CK.sl 3] y0)) (sl (okL tV (toN (hdA y0)) (toG (hdA y0))) (sl (Nat.beq t1.alt 1) (k ⟨1,W (s.Uc6+1),1,[[(.tree 3 t1.ns0 (λk=>j9 t1.eh0 (0+k)))]]⟩) z) z) z) z) (e 1))
def Tb5{α:Type}(k:L0->α)(e:Nat->α)(z:α)(p:Y3)(s:L0):α:=let y0:=(p.We2 s.Uc6.toNat);let t1:=(U1 (lsL tV (toN (hdA y0)) (toG (hdA y0))));(sl (decide (s.Uc6<p.M8)) (sl (inB s.Uc6 p.We1) (sl ((Nat.ble 1 (len y0))&&(Ib3 [CK.sl 3] y0)) (sl (okL tV (toN (hdA y0)) (toG (hdA y0))) (sl (Nat.beq t1.alt 1) (sl (Nat.beq s.ns8 (len s.eh2)&&Nat.ble ((s.ns8+1)*24) room) (k ⟨1,W (s.Uc6+1),s.ns8+1,(app s.eh2 [[(.tree 3 t1.ns0 (λk=>j9 t1.eh0 (0+k)))]])⟩) z) z) z) z) z) (e 2))
def Ga3(p:Y3)(s:L0):Stp L0:=(sel (Nat.beq s.ph 1) (Tb5 .next .exit .fail p s) (Tb4 .next .exit .fail p s))
def Gb9:Lo Y3 L0:=⟨En Ac1,0,nf5,[1,1,1,1,0,1,4,4],[2,4,6,8,23,24,25],.p,[⟨sUq::sUq::sPq 0::sUq::sPq 1::sUq::sIq::sUq::.s (.o .nil)::ru2 14 (sTq 1::sIq::sIq::ru2 30 []),[⟨0,7,true,some [[.o .val,.c 3 (nL tV),.c 1 (nL (tLs tV)),.c 3 (nL tV),.c 1 (nL tI),.o (.int .i64),.c 3 (nL tV)]]⟩,⟨0,7,true,some [[.o .val,.o .nil,.o .nil,.o .nil,.o .nil,.o (.lit .i64 0),.o .nil]]⟩],λa H=>(⟨aIq a 6,aNq a 23,aGq a 23,aIq a 24,Y8 (slT (rwT (elT H 0) 0) 0),hLq tV H 0 0 1,hLq (tLs tV) H 0 0 2,hLq tV H 0 0 3,hLq tI H 0 0 4,hIq H 0 0 5,hLq tV H 0 0 6,Y8 (slT (rwT (elT H 1) 0) 0)⟩,⟨0,aIq a 25,0,[]⟩)⟩,⟨sUq::sUq::sPq 0::sUq::sPq 1::sUq::sIq::sUq::.s (.o (.sl 2 0 (some 0) none))::ru2 14 (sTq 1::sIq::sIq::ru2 30 []),[⟨0,7,true,some [[.o .val,.c 3 (nL tV),.c 1 (nL (tLs tV)),.c 3 (nL tV),.c 1 (nL tI),.o (.int .i64),.c 3 (nL tV)]]⟩,⟨0,7,true,some [[.o .val,.o .nil,.o .nil,.o .nil,.o .nil,.o (.lit .i64 0),.o .nil]]⟩,⟨25,1,true,none⟩],λa H=>(⟨aIq a 6,aNq a 23,aGq a 23,aIq a 24,Y8 (slT (rwT (elT H 0) 0) 0),hLq tV H 0 0 1,hLq (tLs tV) H 0 0 2,hLq tV H 0 0 3,hLq tI H 0 0 4,hIq H 0 0 5,hLq tV H 0 0 6,Y8 (slT (rwT (elT H 1) 0) 0)⟩,⟨1,aIq a 25,slN (slT a 8),elT H 2⟩)⟩],Ga3,[(some 0,λp s=>upq (Tb2 p s) [(26,b (decide (s.Uc6<p.M8)))]),(some 0,λp s=>upq (Tb3 p s) [(26,b (decide (s.Uc6<p.M8)))])],kd7⟩
theorem kd8:Gb9.Ok:=Qjh [] .nil λp s=>(.sel (Nat.beq s.ph 1) (.ofq @Tb5) (.ofq @Tb4))
def fb1(x:Tol)(y:Int):ROq:=let y2:=(List.length x.inn);let y1:=(List.length (rt tI x.li));let y0:=(⟨x.nm,rt tV x.ou,rt (tLs tV) x.inn,rt tV x.ho,rt tI x.li,x.ru,rt tV x.fo⟩:Tol);let t1:=(Ja1 y0 y);let t2:=(lp (Ga3 (⟨t1.1,y2-t1.1.toNat,(λk=>(λk=>(tLs tV).row (gL (tLs tV) x.inn k)) (t1.1.toNat+k)),(↑(y2-t1.1.toNat):Int),x.nm,rt tV x.ou,rt (tLs tV) x.inn,rt tV x.ho,rt tI x.li,x.ru,rt tV x.fo,⟨#[]⟩⟩:Y3)) (⟨0,0,0,[]⟩:L0));let t3:=(vb0 (lsL tI (y1-t1.1.toNat) (λk=>(λk=>(tI).row (gL tI (rt tI x.li) k)) (t1.1.toNat+k))));let t4:=(U1 (rt tV (rt tV x.ou)));let t5:=(U1 (rt tV (rt tV x.ho)));let t6:=(U1 (rt tV (rt tV x.fo)));(sl ((okE tV x.ou)&&((okE (tLs tV) x.inn)&&((okE tV x.ho)&&((okE tI x.li)&&((okE tV x.fo)&&true))))) (sl (Ja2 y0 y) (sl (!t1.2) (some ((.tup [(.agg [(.v (.string ⟨#[]⟩)),nlq,nlq,nlq,nlq,i 0,nlq]),b false]),[])) (sl (inB t1.1 (y2+1)) (sl ((cnE tV x.ou)&&((cnE (tLs tV) x.inn)&&((cnE tV x.ho)&&((cnE tI x.li)&&((cnE tV x.fo)&&true))))) (sl (Nat.beq t2.1 1) (sl (inB t1.1 (y1+1)) (sl (okL tI (y1-t1.1.toNat) (λk=>(λk=>(tI).row (gL tI (rt tI x.li) k)) (t1.1.toNat+k))) (sl (Nat.beq t3.alt 1) (sl (okE tV (rt tV x.ou)) (sl (Nat.beq t4.alt 1) (sl (okE tV (rt tV x.ho)) (sl (Nat.beq t5.alt 1) (sl (okE tV (rt tV x.fo)) (sl (Nat.beq t6.alt 1) (some ((.tup [(.agg [.v (.string x.nm),(.tree 3 t4.ns0 (λk=>j9 t4.eh0 (0+k))),(.tree 1 0 (λ_=>[])),(.tree 3 t5.ns0 (λk=>j9 t5.eh0 (0+k))),(.tree 1 t3.ns0 (λk=>j9 t3.eh0 (0+k))),i x.ru,(.tree 3 t6.ns0 (λk=>j9 t6.eh0 (0+k)))]),b true]),[])) none) none) none) none) none) none) none) none) none) (sl (Nat.beq t2.1 2) (sl (inB t1.1 (y1+1)) (sl (okL tI (y1-t1.1.toNat) (λk=>(λk=>(tI).row (gL tI (rt tI x.li) k)) (t1.1.toNat+k))) (sl (Nat.beq t3.alt 1) (sl (okE tV (rt tV x.ou)) (sl (Nat.beq t4.alt 1) (sl (okE tV (rt tV x.ho)) (sl (Nat.beq t5.alt 1) (sl (okE tV (rt tV x.fo)) (sl (Nat.beq t6.alt 1) (some ((.tup [(.agg [.v (.string x.nm),(.tree 3 t4.ns0 (λk=>j9 t4.eh0 (0+k))),(.tree 1 t2.2.ns8 (λk=>j9 t2.2.eh2 (0+k))),(.tree 3 t5.ns0 (λk=>j9 t5.eh0 (0+k))),(.tree 1 t3.ns0 (λk=>j9 t3.eh0 (0+k))),i x.ru,(.tree 3 t6.ns0 (λk=>j9 t6.eh0 (0+k)))]),b true]),[])) none) none) none) none) none) none) none) none) none) none)) none) none)) none) none)
def oa8(x:Tol)(y:Int):Tol×Bool:=O8 (two r1T r1B) (fb1 x y)
def Bb6(x:Tol)(y:Int):Bool:=okO (two r1T r1B) (fb1 x y)
def Pd0:Sum:=Ha5 cT cI (λx y=>.guard (Bb6 x y) (.ret ((two r1T r1B).enc (oa8 x y),[])))
theorem Dd0:d9 prog G 18 Pd0:=ve1 (bd b18 od7) (two r1T r1B) (o:=fb1) λx y=>ha5 (.s .p (.s .p (.s .p (.s .p (.s (.s .p (.b (.u Gb9.ls))) .p))))) [Gb9.pr] (.cons kd8 .nil)
def cc5{α:Type}(kk:ib3->α)(x:ub4):α:=(kk ⟨decide ((W ((W (2*(W (x.is0+1))))*(W (x.is0+1))))>(W (x.c9*x.c9)))⟩)
def vb4(x:ub4):ib3:=cc5 (λr=>r) x
def Tb6(x:ub4)(r:ib3):DT (a7×List b7):=.ret (b r.bs0,[bq 0 1 [[i x.c9]]])
def cc6:Sum:=va9 ⟨[sIq,sPq 0],[⟨0,1,true,some [[.o (.int .i64)]]⟩],λa H=>(⟨aIq a 0,hIq H 0 0 0⟩,())⟩ (λx=>Tb6 x (vb4 x))
theorem Tc5:d9 prog G 50 cc6:=r5 (enc:=λx=>⟨[i x.is0,.ptr 0 0 0 0],[bq 0 1 [[i x.c9]]]⟩) (λa H=>by kernel_rfl) (bd b50 gb5) λx=>ha4 (mEq @cc5 (λr=>(Tb6 x r).run) x)
def cc7{α:Type}(kk:ib3->α)(x:ub4):α:=(kk ⟨decide ((W ((W (2*x.c9))*x.c9))<=(W ((W (x.c9+x.is0))*(W (x.c9+x.is0)))))⟩)
def vb7(x:ub4):ib3:=cc7 (λr=>r) x
def Tb7(x:ub4)(r:ib3):DT (a7×List b7):=.ret (b r.bs0,[bq 0 1 [[i x.c9]]])
def cc8:Sum:=va9 ⟨[sIq,sPq 0],[⟨0,1,true,some [[.o (.int .i64)]]⟩],λa H=>(⟨aIq a 0,hIq H 0 0 0⟩,())⟩ (λx=>Tb7 x (vb7 x))
theorem Tc6:d9 prog G 51 cc8:=r5 (enc:=λx=>⟨[i x.is0,.ptr 0 0 0 0],[bq 0 1 [[i x.c9]]]⟩) (λa H=>by kernel_rfl) (bd b51 gb5) λx=>ha4 (mEq @cc7 (λr=>(Tb7 x r).run) x)
structure vb8 where
 (is0 c9 fa4:Int)
def cc9{α:Type}(kk:ib3->α)(x:vb8):α:=(kk ⟨decide ((W ((W (x.c9*x.c9))+(W (x.fa4*x.fa4))))<=(W ((W (x.c9+x.is0))*(W (x.c9+x.is0)))))⟩)
def wb0(x:vb8):ib3:=cc9 (λr=>r) x
def Tb8(x:vb8)(r:ib3):DT (a7×List b7):=.ret (b r.bs0,[bq 0 1 [[i x.c9]],bq 0 1 [[i x.fa4]]])
def dc0:Sum:=va9 ⟨[sIq,sPq 0,sPq 1],[⟨0,1,true,some [[.o (.int .i64)]]⟩,⟨0,1,true,some [[.o (.int .i64)]]⟩],λa H=>(⟨aIq a 0,hIq H 0 0 0,hIq H 1 0 0⟩,())⟩ (λx=>Tb8 x (wb0 x))
theorem Tc7:d9 prog G 52 dc0:=r5 (enc:=λx=>⟨[i x.is0,.ptr 0 0 0 0,.ptr 1 0 0 0],[bq 0 1 [[i x.c9]],bq 0 1 [[i x.fa4]]]⟩) (λa H=>by kernel_rfl) (bd b52 gb5) λx=>ha4 (mEq @cc9 (λr=>(Tb8 x r).run) x)
structure Hb0 where
 c9:Int
def dc1:List (Nat×Sum):=[(50,cc6)]
theorem Tc8:l6 prog G dc1:=⟨Tc5,trivial⟩
def Kc4(p:Hb0)(s:r6):St:=⟨.fn 50 [.ptr 0 0 0 0]::.unk::.unk::i s.is3::ra 7 [],[bq 0 1 [[i p.c9]]]⟩
def Bb7{α:Type}(k:r6->α)(e:Nat->α)(z:α)(p:Hb0)(s:r6):α:=let t1:=(vb4 ⟨s.is3,p.c9⟩);(sl (!t1.bs0) (k ⟨W (s.is3+1)⟩) (e 1))
def ha1(p:Hb0)(s:r6):Stp r6:=Bb7 .next .exit .fail p s
def kb4:Lo Hb0 r6:=⟨En dc1,1,Oe6,[1,1,0,4,4],[0,3],.p,[⟨.fn 50 [.o (.ptr 0 0 0 0)]::sUq::sUq::sIq::ru2 7 [],[⟨0,1,true,some [[.o (.int .i64)]]⟩],λa H=>(⟨hIq H 0 0 0⟩,⟨aIq a 3⟩)⟩],ha1,[(some 0,λp s=>let t1:=(vb4 ⟨s.is3,p.c9⟩);⟨.fn 50 [.ptr 0 0 0 0]::.unk::.unk::i s.is3::.fn 50 [.ptr 0 0 0 0]::i s.is3::b t1.bs0::b (!t1.bs0)::ra 3 [],[bq 0 1 [[i p.c9]]]⟩)],Kc4⟩
theorem Kc5:kb4.Ok:=Qjh [] .nil λp s=>(.ofq @Bb7)
def Hb2{α:Type}(kk:ra7->α)(x:Hb0):α:=let t1:=(lp (ha1 (⟨x.c9⟩:Hb0)) (⟨0⟩:r6));(sl (Nat.beq t1.1 1) (kk ⟨1,t1.2.is3⟩) (kk ⟨0,0⟩))
def Oa8(x:Hb0):ra7:=Hb2 (λr=>r) x
def dc2(x:Hb0)(r:ra7):DT (a7×List b7):=(xa6 r.alt 1 (i r.is0,[bq 0 1 [[i x.c9]]]) .fail)
def mc5:Sum:=va9 ⟨[.fn 50 [.o (.ptr 0 0 0 0)]],[⟨0,1,true,some [[.o (.int .i64)]]⟩],λa H=>(⟨hIq H 0 0 0⟩,())⟩ (λx=>dc2 x (Oa8 x))
theorem kd9:d9 prog G 49 mc5:=r5 (enc:=λx=>⟨[.fn 50 [.ptr 0 0 0 0]],[bq 0 1 [[i x.c9]]]⟩) (λa H=>by kernel_rfl) (bd b49 Tc8) λx=>ha5 (.s .p (.s .p (.s (.b (.u kb4.ls)) .p))) [kb4.pr] (.cons Kc5 .nil) (mEq @Hb2 (λr=>(dc2 x r).run) x)
def dc3:List (Nat×Sum):=[(51,cc8)]
theorem Tc9:l6 prog G dc3:=⟨Tc6,trivial⟩
def Kc6(p:Hb0)(s:r6):St:=⟨.fn 51 [.ptr 0 0 0 0]::.unk::.unk::i s.is3::ra 7 [],[bq 0 1 [[i p.c9]]]⟩
def Bb8{α:Type}(k:r6->α)(e:Nat->α)(z:α)(p:Hb0)(s:r6):α:=let t1:=(vb7 ⟨s.is3,p.c9⟩);(sl (!t1.bs0) (k ⟨W (s.is3+1)⟩) (e 1))
def ha2(p:Hb0)(s:r6):Stp r6:=Bb8 .next .exit .fail p s
def kb5:Lo Hb0 r6:=⟨En dc3,1,Oe6,[1,1,0,4,4],[0,3],.p,[⟨.fn 51 [.o (.ptr 0 0 0 0)]::sUq::sUq::sIq::ru2 7 [],[⟨0,1,true,some [[.o (.int .i64)]]⟩],λa H=>(⟨hIq H 0 0 0⟩,⟨aIq a 3⟩)⟩],ha2,[(some 0,λp s=>let t1:=(vb7 ⟨s.is3,p.c9⟩);⟨.fn 51 [.ptr 0 0 0 0]::.unk::.unk::i s.is3::.fn 51 [.ptr 0 0 0 0]::i s.is3::b t1.bs0::b (!t1.bs0)::ra 3 [],[bq 0 1 [[i p.c9]]]⟩)],Kc6⟩
theorem Kc7:kb5.Ok:=Qjh [] .nil λp s=>(.ofq @Bb8)
def Hb5{α:Type}(kk:ra7->α)(x:Hb0):α:=let t1:=(lp (ha2 (⟨x.c9⟩:Hb0)) (⟨0⟩:r6));(sl (Nat.beq t1.1 1) (kk ⟨1,t1.2.is3⟩) (kk ⟨0,0⟩))
def Oa9(x:Hb0):ra7:=Hb5 (λr=>r) x
def dc4(x:Hb0)(r:ra7):DT (a7×List b7):=(xa6 r.alt 1 (i r.is0,[bq 0 1 [[i x.c9]]]) .fail)
def mc6:Sum:=va9 ⟨[.fn 51 [.o (.ptr 0 0 0 0)]],[⟨0,1,true,some [[.o (.int .i64)]]⟩],λa H=>(⟨hIq H 0 0 0⟩,())⟩ (λx=>dc4 x (Oa9 x))
theorem ld0:d9 prog G 49 mc6:=r5 (enc:=λx=>⟨[.fn 51 [.ptr 0 0 0 0]],[bq 0 1 [[i x.c9]]]⟩) (λa H=>by kernel_rfl) (bd b49 Tc9) λx=>ha5 (.s .p (.s .p (.s (.b (.u kb5.ls)) .p))) [kb5.pr] (.cons Kc7 .nil) (mEq @Hb5 (λr=>(dc4 x r).run) x)
structure Hb6 where
 (c9 fa4:Int)
def dc5:List (Nat×Sum):=[(52,dc0)]
theorem Uc0:l6 prog G dc5:=⟨Tc7,trivial⟩
def Kc8(p:Hb6)(s:r6):St:=⟨.fn 52 [.ptr 0 0 0 0,.ptr 1 0 0 0]::.unk::.unk::i s.is3::ra 7 [],[bq 0 1 [[i p.c9]],bq 0 1 [[i p.fa4]]]⟩
def Bb9{α:Type}(k:r6->α)(e:Nat->α)(z:α)(p:Hb6)(s:r6):α:=let t1:=(wb0 ⟨s.is3,p.c9,p.fa4⟩);(sl (!t1.bs0) (k ⟨W (s.is3+1)⟩) (e 1))
def ha3(p:Hb6)(s:r6):Stp r6:=Bb9 .next .exit .fail p s
def kb6:Lo Hb6 r6:=⟨En dc5,2,Oe6,[1,1,0,4,4],[0,3],.p,[⟨.fn 52 [.o (.ptr 0 0 0 0),.o (.ptr 1 0 0 0)]::sUq::sUq::sIq::ru2 7 [],[⟨0,1,true,some [[.o (.int .i64)]]⟩,⟨0,1,true,some [[.o (.int .i64)]]⟩],λa H=>(⟨hIq H 0 0 0,hIq H 1 0 0⟩,⟨aIq a 3⟩)⟩],ha3,[(some 0,λp s=>let t1:=(wb0 ⟨s.is3,p.c9,p.fa4⟩);⟨.fn 52 [.ptr 0 0 0 0,.ptr 1 0 0 0]::.unk::.unk::i s.is3::.fn 52 [.ptr 0 0 0 0,.ptr 1 0 0 0]::i s.is3::b t1.bs0::b (!t1.bs0)::ra 3 [],[bq 0 1 [[i p.c9]],bq 0 1 [[i p.fa4]]]⟩)],Kc8⟩
theorem Kc9:kb6.Ok:=Qjh [] .nil λp s=>(.ofq @Bb9)
def Hb8{α:Type}(kk:ra7->α)(x:Hb6):α:=let t1:=(lp (ha3 (⟨x.c9,x.fa4⟩:Hb6)) (⟨0⟩:r6));(sl (Nat.beq t1.1 1) (kk ⟨1,t1.2.is3⟩) (kk ⟨0,0⟩))
def Pa0(x:Hb6):ra7:=Hb8 (λr=>r) x
def dc6(x:Hb6)(r:ra7):DT (a7×List b7):=(xa6 r.alt 1 (i r.is0,[bq 0 1 [[i x.c9]],bq 0 1 [[i x.fa4]]]) .fail)
def mc7:Sum:=va9 ⟨[.fn 52 [.o (.ptr 0 0 0 0),.o (.ptr 1 0 0 0)]],[⟨0,1,true,some [[.o (.int .i64)]]⟩,⟨0,1,true,some [[.o (.int .i64)]]⟩],λa H=>(⟨hIq H 0 0 0,hIq H 1 0 0⟩,())⟩ (λx=>dc6 x (Pa0 x))
theorem ld1:d9 prog G 49 mc7:=r5 (enc:=λx=>⟨[.fn 52 [.ptr 0 0 0 0,.ptr 1 0 0 0]],[bq 0 1 [[i x.c9]],bq 0 1 [[i x.fa4]]]⟩) (λa H=>by kernel_rfl) (bd b49 Uc0) λx=>ha5 (.s .p (.s .p (.s (.b (.u kb6.ls)) .p))) [kb6.pr] (.cons Kc9 .nil) (mEq @Hb8 (λr=>(dc6 x r).run) x)
def mc8:Sum:=ue4 (λl=>match l with | [.fn n _]=>Nat.beq n 50 | _=>false) mc5 (ue4 (λl=>match l with | [.fn n _]=>Nat.beq n 51 | _=>false) mc6 mc7)
theorem ld2:d9 prog G 49 mc8:=yd5 kd9 (yd5 ld0 ld1)
structure ob6 where
 (c9 e7 e8 Wc7 Wc8 Wc9 Xc0 Xc1 Xc2 Xc3 Xc4 Xc5 Xc6 Xc7 Xc8 Xc9 Yc0 Yc1 Yc2 Yc3 Yc4 Yc5 Yc6 Yc7 Yc8 Yc9 Zc0 Zc1 Zc2 Zc3 Bc6 Bc7 Bc8 Bc9 Cc0 Cc1 Cc2 Cc3 Cc4 Cc5 Cc6 Cc7 Cc8 Cc9 Dc0 Dc1 Dc2 Dc3:Int)
def Xa5{α:Type}(kk:ob6->α)(x:Int)(y:Int)(z:Int):α:=(kk ⟨x,y,W (z*0),x,y,W (z*1),y,x,W (z*0),y,x,W (z*1),W (0-x),y,W (z*0),W (0-x),y,W (z*1),W (0-y),x,W (z*0),W (0-y),x,W (z*1),x,W (0-y),W (z*0),x,W (0-y),W (z*1),y,W (0-x),W (z*0),y,W (0-x),W (z*1),W (0-x),W (0-y),W (z*0),W (0-x),W (0-y),W (z*1),W (0-y),W (0-x),W (z*0),W (0-y),W (0-x),W (z*1)⟩)
def ob7(x:Int)(y:Int)(z:Int):ob6:=Xa5 (λr=>r) x y z
def Hb9(r:ob6):DT (a7×List b7):=.ret (.sl 0 0 16 0,[bq 52 3 [[i r.c9,i r.e7,i r.e8],[i r.Wc7,i r.Wc8,i r.Wc9],[i r.Xc0,i r.Xc1,i r.Xc2],[i r.Xc3,i r.Xc4,i r.Xc5],[i r.Xc6,i r.Xc7,i r.Xc8],[i r.Xc9,i r.Yc0,i r.Yc1],[i r.Yc2,i r.Yc3,i r.Yc4],[i r.Yc5,i r.Yc6,i r.Yc7],[i r.Yc8,i r.Yc9,i r.Zc0],[i r.Zc1,i r.Zc2,i r.Zc3],[i r.Bc6,i r.Bc7,i r.Bc8],[i r.Bc9,i r.Cc0,i r.Cc1],[i r.Cc2,i r.Cc3,i r.Cc4],[i r.Cc5,i r.Cc6,i r.Cc7],[i r.Cc8,i r.Cc9,i r.Dc0],[i r.Dc1,i r.Dc2,i r.Dc3]]])
theorem Dd1{α β:Type}(F:α->β)(kk:ob6->α)(x:Int)(y:Int)(z:Int):F (Xa5 kk x y z)=Xa5 (λr=>F (kk r)) x y z:=by unfold Xa5;(repeat' apply ue7 (f:=F))<;>rfl
def Ac2:Sum:=Ub4 cI cI cI (λx y z=>Hb9 (ob7 x y z))
theorem od8:d9 prog G 54 Ac2:=be8 (bd b54 gb5) λx y z=>ha4 (Eq.trans (b:=Xa5 (λr=>(Hb9 r).run) x y z) (by kernel_rfl) (Dd1 (λr=>(Hb9 r).run) (λr=>r) x y z).symm)
def od9:List (Nat×Sum):=[(49,mc8),(54,Ac2),(53,Tb1)]
theorem ld3:l6 prog G od9:=⟨ld2,od8,Kc3,trivial⟩
def oa9(x:Int)(y:Int):ROq:=let y0:=(.tup [nlq,nlq,i 0,i 3],[]);let t1:=(Oa8 ⟨x⟩);let t2:=(Oa9 ⟨x⟩);let t3:=(Pa0 ⟨x,t2.is0⟩);let t4:=(ob7 x 0 y);let y28:=(⟨t4.Zc1,t4.Zc2,t4.Zc3⟩:V3);let y27:=(⟨t4.Yc8,t4.Yc9,t4.Zc0⟩:V3);let y26:=(⟨t4.Yc5,t4.Yc6,t4.Yc7⟩:V3);let y25:=(⟨t4.Yc2,t4.Yc3,t4.Yc4⟩:V3);let y24:=(⟨t4.Xc9,t4.Yc0,t4.Yc1⟩:V3);let y23:=(⟨t4.Xc6,t4.Xc7,t4.Xc8⟩:V3);let y22:=(⟨t4.Xc3,t4.Xc4,t4.Xc5⟩:V3);let y21:=(⟨t4.Xc0,t4.Xc1,t4.Xc2⟩:V3);let y20:=(⟨t4.Wc7,t4.Wc8,t4.Wc9⟩:V3);let y19:=(⟨t4.c9,t4.e7,t4.e8⟩:V3);let y6:=(⟨t4.Dc1,t4.Dc2,t4.Dc3⟩:V3);let y5:=(⟨t4.Cc8,t4.Cc9,t4.Dc0⟩:V3);let y4:=(⟨t4.Cc5,t4.Cc6,t4.Cc7⟩:V3);let y3:=(⟨t4.Cc2,t4.Cc3,t4.Cc4⟩:V3);let y2:=(⟨t4.Bc9,t4.Cc0,t4.Cc1⟩:V3);let y1:=(⟨t4.Bc6,t4.Bc7,t4.Bc8⟩:V3);let t5:=(ob7 t1.is0 t1.is0 y);let y38:=(⟨t5.Zc1,t5.Zc2,t5.Zc3⟩:V3);let y37:=(⟨t5.Yc8,t5.Yc9,t5.Zc0⟩:V3);let y36:=(⟨t5.Yc5,t5.Yc6,t5.Yc7⟩:V3);let y35:=(⟨t5.Yc2,t5.Yc3,t5.Yc4⟩:V3);let y34:=(⟨t5.Xc9,t5.Yc0,t5.Yc1⟩:V3);let y33:=(⟨t5.Xc6,t5.Xc7,t5.Xc8⟩:V3);let y32:=(⟨t5.Xc3,t5.Xc4,t5.Xc5⟩:V3);let y31:=(⟨t5.Xc0,t5.Xc1,t5.Xc2⟩:V3);let y30:=(⟨t5.Wc7,t5.Wc8,t5.Wc9⟩:V3);let y29:=(⟨t5.c9,t5.e7,t5.e8⟩:V3);let y12:=(⟨t5.Dc1,t5.Dc2,t5.Dc3⟩:V3);let y11:=(⟨t5.Cc8,t5.Cc9,t5.Dc0⟩:V3);let y10:=(⟨t5.Cc5,t5.Cc6,t5.Cc7⟩:V3);let y9:=(⟨t5.Cc2,t5.Cc3,t5.Cc4⟩:V3);let y8:=(⟨t5.Bc9,t5.Cc0,t5.Cc1⟩:V3);let y7:=(⟨t5.Bc6,t5.Bc7,t5.Bc8⟩:V3);let t6:=(kb2 [y19,y20,y21,y22,y23,y24,y25,y26,y27,y28,y1,y2,y3,y4,y5,y6,y29,y30,y31,y32,y33,y34,y35,y36,y37,y38,y7,y8,y9,y10,y11,y12]);let t7:=(ob7 x t2.is0 y);let y48:=(⟨t7.Zc1,t7.Zc2,t7.Zc3⟩:V3);let y47:=(⟨t7.Yc8,t7.Yc9,t7.Zc0⟩:V3);let y46:=(⟨t7.Yc5,t7.Yc6,t7.Yc7⟩:V3);let y45:=(⟨t7.Yc2,t7.Yc3,t7.Yc4⟩:V3);let y44:=(⟨t7.Xc9,t7.Yc0,t7.Yc1⟩:V3);let y43:=(⟨t7.Xc6,t7.Xc7,t7.Xc8⟩:V3);let y42:=(⟨t7.Xc3,t7.Xc4,t7.Xc5⟩:V3);let y41:=(⟨t7.Xc0,t7.Xc1,t7.Xc2⟩:V3);let y40:=(⟨t7.Wc7,t7.Wc8,t7.Wc9⟩:V3);let y39:=(⟨t7.c9,t7.e7,t7.e8⟩:V3);let y18:=(⟨t7.Dc1,t7.Dc2,t7.Dc3⟩:V3);let y17:=(⟨t7.Cc8,t7.Cc9,t7.Dc0⟩:V3);let y16:=(⟨t7.Cc5,t7.Cc6,t7.Cc7⟩:V3);let y15:=(⟨t7.Cc2,t7.Cc3,t7.Cc4⟩:V3);let y14:=(⟨t7.Bc9,t7.Cc0,t7.Cc1⟩:V3);let y13:=(⟨t7.Bc6,t7.Bc7,t7.Bc8⟩:V3);let t8:=(kb2 [y39,y40,y41,y42,y43,y44,y45,y46,y47,y48,y13,y14,y15,y16,y17,y18]);(sl (decide (x<1)) (some y0) (sl (decide (x>8)) (some y0) (sl (decide (y<1)) (some y0) (sl (decide (y>12)) (some y0) (sl (Nat.beq t1.alt 1) (sl (Nat.beq t2.alt 1) (sl (Nat.beq t3.alt 1) (sl (kb3 [y19,y20,y21,y22,y23,y24,y25,y26,y27,y28,y1,y2,y3,y4,y5,y6,y29,y30,y31,y32,y33,y34,y35,y36,y37,y38,y7,y8,y9,y10,y11,y12]) (sl (kb3 [y39,y40,y41,y42,y43,y44,y45,y46,y47,y48,y13,y14,y15,y16,y17,y18]) (some (.tup [eL tV t6.1,eL tV t8.1,i t3.is0,i 0],[])) none) none) none) none) none)))))
def F4(x:Int)(y:Int):List V3×List V3×Int×Int:=O8 (bc9 (r1L tV) (r1L tV) r1I r1I) (oa9 x y)
def Xa6(x:Int)(y:Int):Bool:=okO (bc9 (r1L tV) (r1L tV) r1I r1I) (oa9 x y)
def Ac3:Sum:=Ha5 cI cI (λx y=>.guard (Xa6 x y) (.ret ((bc9 (r1L tV) (r1L tV) r1I r1I).enc (F4 x y),[])))
theorem mc9:d9 prog G 21 Ac3:=Yb9 (bd b21 ld3) (bc9 (r1L tV) (r1L tV) r1I r1I) (o:=oa9)
def Rb0(x:Int):ROq:=(some (.sl 0 0 8 0,[bq 52 3 [[i (W (x*0)),i (W (x*0)),i (W (x*0))],[i (W (x*0)),i (W (x*0)),i (W (x*1))],[i (W (x*0)),i (W (x*1)),i (W (x*0))],[i (W (x*0)),i (W (x*1)),i (W (x*1))],[i (W (x*1)),i (W (x*0)),i (W (x*0))],[i (W (x*1)),i (W (x*0)),i (W (x*1))],[i (W (x*1)),i (W (x*1)),i (W (x*0))],[i (W (x*1)),i (W (x*1)),i (W (x*1))]]]))
def pa0(x:Int):List V3:=O8 (one (r1L tV)) (Rb0 x)
def T7(x:Int):Bool:=okO (one (r1L tV)) (Rb0 x)
def Rb1:Sum:=L6 cI (λx=>.guard (T7 x) (.ret ((one (r1L tV)).enc (pa0 x),[])))
theorem nc0:d9 prog G 30 Rb1:=Ra7 (bd b30 gb5) (one (r1L tV)) (o:=Rb0)
def Lc0:List (Nat×Sum):=[(30,Rb1)]
theorem Ac4:l6 prog G Lc0:=⟨nc0,trivial⟩
def kb7(x:List Int)(y:List (List V3)):ROq:=let t1:=(pa0 2);(sl (T7 2) (sl (T7 2) (some ((.agg [(.v (.string ⟨#[99]⟩)),eL tV t1,eL (tLs tV) y,eL tV t1,eL tI x,i 0,(.tree 3 1 (λk=>j9 [[i 0,i 0,i (-1)]] (0+k)))]),[])) none) none)
def C4(x:List Int)(y:List (List V3)):Tol:=O8 (one r1T) (kb7 x y)
def C5(x:List Int)(y:List (List V3)):Bool:=okO (one r1T) (kb7 x y)
def Tb9:Sum:=Ha5 (db5 tI) (db5 (tLs tV)) (λx y=>.guard (C5 x y) (.ret ((one r1T).enc (C4 x y),[])))
theorem Lc1:d9 prog G 29 Tb9:=Yb9 (bd b29 Ac4) (one r1T) (o:=kb7)
def Uc1:List (Nat×Sum):=[(16,Qb9)]
theorem Lc2:l6 prog G Uc1:=⟨mc3,trivial⟩
def Ga4(x:Tol)(y:Int)(z:Int):ROq:=let y0:=(⟨x.nm,rt tV x.ou,rt (tLs tV) x.inn,rt tV x.ho,rt tI x.li,x.ru,rt tV x.fo⟩:Tol);let t1:=(Ja1 y0 y);(sl ((okE tV x.ou)&&((okE (tLs tV) x.inn)&&((okE tV x.ho)&&((okE tI x.li)&&((okE tV x.fo)&&true))))) (sl (Ja2 y0 y) (sl (t1.2==(decide (z>=0))) (some ((b (t1.1==(if 0>z then 0 else z))),[])) (some (b false,[]))) none) none)
def wb1(x:Tol)(y:Int)(z:Int):Bool:=O8 (one r1B) (Ga4 x y z)
def wb2(x:Tol)(y:Int)(z:Int):Bool:=okO (one r1B) (Ga4 x y z)
def ld4:Sum:=Ub4 cT cI cI (λx y z=>.guard (wb2 x y z) (.ret ((one r1B).enc (wb1 x y z),[])))
theorem Uc2:d9 prog G 31 ld4:=Xe8 (bd b31 Lc2) (one r1B) (o:=Ga4)
def dc7:List (Nat×Sum):=[(23,bc8)]
theorem Dd2:l6 prog G dc7:=⟨Sb8,trivial⟩
structure Xa7 where
 db2:ByteArray
 za7:List V3
 M9:List (List V3)
 za8:List V3
 J5:List Int
 db3:Int
 za9:List V3
 ic1:ByteArray
 Lc8:List V3
 wb8:List (List V3)
 Lc9:List V3
 Mb9:List Int
 Ed2:Int
 Mc0:List V3
def nc1(p:Xa7)(s:Ye7):St:=⟨.unk::.unk::.ptr 0 0 0 0::.ptr 1 0 0 0::.unk::i s.is5::ra 92 [],[bq 0 7 [[.v (.string p.db2),eL tV p.za7,eL (tLs tV) p.M9,eL tV p.za8,eL tI p.J5,i p.db3,eL tV p.za9]],bq 0 7 [[.v (.string p.ic1),eL tV p.Lc8,eL (tLs tV) p.wb8,eL tV p.Lc9,eL tI p.Mb9,i p.Ed2,eL tV p.Mc0]]]⟩
def Xa8{α:Type}(k:Ye7->α)(e:Nat->α)(z:α)(p:Xa7)(s:Ye7):α:=let y1:=(gL (tLs tV) p.wb8 s.is5.toNat);let y0:=(gL (tLs tV) p.M9 s.is5.toNat);let t1:=(S5 (rt tV y0) (rt tV y1));(sl (decide (s.is5<(↑(List.length p.M9):Int))) (sl (inB s.is5 (List.length p.M9)) (sl (inB s.is5 (List.length p.wb8)) (sl (okE tV y0) (sl (okE tV y1) (sl (S6 (rt tV y0) (rt tV y1)) (sl (!t1) (e 1) (k ⟨W (s.is5+1)⟩)) z) z) z) z) z) (e 2))
def za5(p:Xa7)(s:Ye7):Stp Ye7:=Xa8 .next .exit .fail p s
def Rb2:Lo Xa7 Ye7:=⟨En dc7,0,ef1,[1,1,0,1,4,4],[2,3,5],.p,[⟨sUq::sUq::sPq 0::sPq 1::sUq::sIq::ru2 92 [],[⟨0,7,true,some [[.o .val,.c 3 (nL tV),.c 1 (nL (tLs tV)),.c 3 (nL tV),.c 1 (nL tI),.o (.int .i64),.c 3 (nL tV)]]⟩,⟨0,7,true,some [[.o .val,.c 3 (nL tV),.c 1 (nL (tLs tV)),.c 3 (nL tV),.c 1 (nL tI),.o (.int .i64),.c 3 (nL tV)]]⟩],λa H=>(⟨Y8 (slT (rwT (elT H 0) 0) 0),hLq tV H 0 0 1,hLq (tLs tV) H 0 0 2,hLq tV H 0 0 3,hLq tI H 0 0 4,hIq H 0 0 5,hLq tV H 0 0 6,Y8 (slT (rwT (elT H 1) 0) 0),hLq tV H 1 0 1,hLq (tLs tV) H 1 0 2,hLq tV H 1 0 3,hLq tI H 1 0 4,hIq H 1 0 5,hLq tV H 1 0 6⟩,⟨aIq a 5⟩)⟩],za5,[(none,λp s=>⟨[b false],[]⟩),(some 0,λp s=>upq (nc1 p s) [(61,i s.is5),(62,.ptr 0 0 2 0),(63,eL (tLs tV) p.M9),(64,i (↑(List.length p.M9):Int)),(65,b (decide (s.is5<(↑(List.length p.M9):Int))))])],nc1⟩
theorem pd0:Rb2.Ok:=Qjh [] .nil λp s=>(.ofq @Xa8)
structure pa2 where
 is6:Int
def nc2(p:Xa7)(s:pa2):St:=⟨.unk::.unk::.ptr 0 0 0 0::.ptr 1 0 0 0::.unk::.unk::i s.is6::ra 91 [],[bq 0 7 [[.v (.string p.db2),eL tV p.za7,eL (tLs tV) p.M9,eL tV p.za8,eL tI p.J5,i p.db3,eL tV p.za9]],bq 0 7 [[.v (.string p.ic1),eL tV p.Lc8,eL (tLs tV) p.wb8,eL tV p.Lc9,eL tI p.Mb9,i p.Ed2,eL tV p.Mc0]]]⟩
def Ya0{α:Type}(k:pa2->α)(e:Nat->α)(z:α)(p:Xa7)(s:pa2):α:=(sl (decide (s.is6<(↑(List.length p.J5):Int))) (sl (inB s.is6 (List.length p.J5)) (sl (inB s.is6 (List.length p.Mb9)) (sl ((gL tI p.J5 s.is6.toNat) != (gL tI p.Mb9 s.is6.toNat)) (e 1) (k ⟨W (s.is6+1)⟩)) z) z) (e 2))
def za6(p:Xa7)(s:pa2):Stp pa2:=Ya0 .next .exit .fail p s
def Rb3:Lo Xa7 pa2:=⟨En dc7,0,ef1,[1,1,1,0,1,4,4],[2,3,6],.p,[⟨sUq::sUq::sPq 0::sPq 1::sUq::sUq::sIq::ru2 91 [],[⟨0,7,true,some [[.o .val,.c 3 (nL tV),.c 1 (nL (tLs tV)),.c 3 (nL tV),.c 1 (nL tI),.o (.int .i64),.c 3 (nL tV)]]⟩,⟨0,7,true,some [[.o .val,.c 3 (nL tV),.c 1 (nL (tLs tV)),.c 3 (nL tV),.c 1 (nL tI),.o (.int .i64),.c 3 (nL tV)]]⟩],λa H=>(⟨Y8 (slT (rwT (elT H 0) 0) 0),hLq tV H 0 0 1,hLq (tLs tV) H 0 0 2,hLq tV H 0 0 3,hLq tI H 0 0 4,hIq H 0 0 5,hLq tV H 0 0 6,Y8 (slT (rwT (elT H 1) 0) 0),hLq tV H 1 0 1,hLq (tLs tV) H 1 0 2,hLq tV H 1 0 3,hLq tI H 1 0 4,hIq H 1 0 5,hLq tV H 1 0 6⟩,⟨aIq a 6⟩)⟩],za6,[(none,λp s=>⟨[b false],[]⟩),(some 2,λp s=>upq (nc2 p s) [(80,i s.is6),(81,.ptr 0 0 4 0),(82,eL tI p.J5),(83,i (↑(List.length p.J5):Int)),(84,b (decide (s.is6<(↑(List.length p.J5):Int))))])],nc2⟩
theorem pd1:Rb3.Ok:=Qjh [] .nil λp s=>(.ofq @Ya0)
def wb3(x:Tol)(y:Tol):ROq:=let y1:=(rt (tLs tV) y.inn);let y0:=(rt (tLs tV) x.inn);let t1:=(S5 (rt tV x.ou) (rt tV y.ou));let t2:=(S5 (rt tV x.ho) (rt tV y.ho));let t3:=(S5 (rt tV x.fo) (rt tV y.fo));let t4:=(lp (za5 (⟨x.nm,rt tV x.ou,y0,rt tV x.ho,rt tI x.li,x.ru,rt tV x.fo,y.nm,rt tV y.ou,y1,rt tV y.ho,rt tI y.li,y.ru,rt tV y.fo⟩:Xa7)) (⟨0⟩:Ye7));let t5:=(lp (za6 (⟨x.nm,rt tV (rt tV x.ou),rt (tLs tV) y0,rt tV (rt tV x.ho),rt tI (rt tI x.li),x.ru,rt tV (rt tV x.fo),y.nm,rt tV (rt tV y.ou),rt (tLs tV) y1,rt tV (rt tV y.ho),rt tI (rt tI y.li),y.ru,rt tV (rt tV y.fo)⟩:Xa7)) (⟨0⟩:pa2));(sl (!(ByteArray.toList x.nm==ByteArray.toList y.nm)) (some (b false,[])) (sl (x.ru != y.ru) (some (b false,[])) (sl ((↑(List.length x.inn):Int) != (↑(List.length y.inn):Int)) (some (b false,[])) (sl ((↑(List.length x.li):Int) != (↑(List.length y.li):Int)) (some (b false,[])) (sl (okE tV x.ou) (sl (okE tV y.ou) (sl (S6 (rt tV x.ou) (rt tV y.ou)) (sl (!t1) (some (b false,[])) (sl (okE tV x.ho) (sl (okE tV y.ho) (sl (S6 (rt tV x.ho) (rt tV y.ho)) (sl (!t2) (some (b false,[])) (sl (okE tV x.fo) (sl (okE tV y.fo) (sl (S6 (rt tV x.fo) (rt tV y.fo)) (sl (!t3) (some (b false,[])) (sl ((cnE tV x.ou)&&((cnE (tLs tV) x.inn)&&((cnE tV x.ho)&&((cnE tI x.li)&&((cnE tV x.fo)&&((cnE tV y.ou)&&((cnE (tLs tV) y.inn)&&((cnE tV y.ho)&&((cnE tI y.li)&&((cnE tV y.fo)&&true)))))))))) (sl (Nat.beq t4.1 1) (some (b false,[])) (sl (Nat.beq t4.1 2) (sl ((cnE tV (rt tV x.ou))&&((cnE (tLs tV) y0)&&((cnE tV (rt tV x.ho))&&((cnE tI (rt tI x.li))&&((cnE tV (rt tV x.fo))&&((cnE tV (rt tV y.ou))&&((cnE (tLs tV) y1)&&((cnE tV (rt tV y.ho))&&((cnE tI (rt tI y.li))&&((cnE tV (rt tV y.fo))&&true)))))))))) (sl (Nat.beq t5.1 1) (some (b false,[])) (sl (Nat.beq t5.1 2) (some (b true,[])) none)) none) none)) none)) none) none) none)) none) none) none)) none) none) none)))))
def qc9(x:Tol)(y:Tol):Bool:=O8 (one r1B) (wb3 x y)
def rc0(x:Tol)(y:Tol):Bool:=okO (one r1B) (wb3 x y)
def Zd1:Sum:=Ha5 cT cT (λx y=>.guard (rc0 x y) (.ret ((one r1B).enc (qc9 x y),[])))
theorem Pd1:d9 prog G 20 Zd1:=ve1 (bd b20 Dd2) (one r1B) (o:=wb3) λx y=>ha5 (.s .p (.s .p (.s (.s .p (.b (.u Rb2.ls))) (.s (.s .p (.b (.u Rb3.ls))) .p)))) [Rb2.pr,Rb3.pr] (.cons pd0 (.cons pd1 .nil))
theorem Fe6{α:Type}{f:Nat}{c:Cod α}{k kA:α->DT (a7×List b7)}(hA:d9 prog G f (L6 c kA))(h:∀a r,(k a).run=some r->(kA a).run=some r):d9 prog G f (L6 c k) :=
 Cd9 hA hA λa r hr=>.inl (h a r hr)
theorem Ac5{α:Type}{x:Option α}{k kA:α->DT (a7×List b7)}{r:a7×List b7}(h:∀a,x=some a->(k a).run=some r->(kA a).run=some r)(he:(onO x k).run=some r):(onO x kA).run=some r:=by
 cases x with
 |none=>cases he
 |some a=>exact h a rfl he
theorem Mb6{g:Bool}{k kA:DT (a7×List b7)}{r:a7×List b7}(h:k.run=some r->kA.run=some r)(he:(DT.guard g k).run=some r):(DT.guard g kA).run=some r:=by
 cases g with
 |false=>cases he
 |true=>exact h he
theorem Ac6{α β:Type}{f:Nat}{c:Cod α}{d:Cod β}{k kA:α->β->DT (a7×List b7)}(hA:d9 prog G f (Ha5 c d kA))(h:∀a b r,(k a b).run=some r->(kA a b).run=some r):d9 prog G f (Ha5 c d k):=λargs blks r out he=>by
 refine hA args blks r out ?_;unfold Ha5 at he ⊢
 split at he
 ·exact Ac5 (λa _ he=>Ac5 (λb _ he=>Mb6 (Mb6 (h a b _)) he) he) he
 ·cases he
theorem Fe7{α β γ:Type}{f:Nat}{c:Cod α}{d:Cod β}{e:Cod γ}{k kA:α->β->γ->DT (a7×List b7)}(hA:d9 prog G f (Ub4 c d e kA))(h:∀a b g r,(k a b g).run=some r->(kA a b g).run=some r):d9 prog G f (Ub4 c d e k):=λargs blks r out he=>by
 refine hA args blks r out ?_;unfold Ub4 at he ⊢
 split at he
 ·exact Ac5 (λa _ he=>Ac5 (λb _ he=>Ac5 (λg _ he=>Mb6 (Mb6 (Mb6 (h a b g _))) he) he) he) he
 ·cases he
def E13(x:Tol):Int:=bif Nat.beq (x.nm.data.toList.headD 0).toNat 67 then 10 else bif Nat.beq x.fo.length 0 then 2 else bif x.ru==3 then 3 else bif x.li==[0] then 3 else bif x.li==[5,5] then 7 else bif ((x.inn.getD 1 []).getD 7 ⟨0,0,0⟩).z==3 then 15 else 0
def V2(x:Tol):Bool:=Xa3 x&&(Xa2 x==E13 x)
def nc3:Sum:=L6 cT λx=>.guard (V2 x) (.ret (i (E13 x),[]))
theorem ld5:d9 prog G 13 nc3:=Fe6 mc2 λx r hr=>by
 obtain⟨hk,hr⟩:=DT.run_guard_some hr;unfold V2 at hk;rw[Qas,beq_iff_eq] at hk;rw[hk.1,hk.2];exact hr
def Ca0(x:Tol)(n m:Int):Bool:=wb2 x n m&&wb1 x n m
def Ub0:Sum:=Ub4 cT cI cI λx n m=>.guard (Ca0 x n m) (.ret (b true,[]))
theorem Lc3:d9 prog G 31 Ub0:=Fe7 Uc2 λx n m r hr=>by
 obtain⟨hk,hr⟩:=DT.run_guard_some hr;unfold Ca0 at hk;rw[Qas] at hk;rw[hk.1,hk.2];exact hr
def Pd2(x:Tol)(n:Int):Bool:=Bb6 x n&&(oa8 x n).2
def Ac7:Sum:=Ha5 cT cI λx n=>.guard (Pd2 x n) (.ret ((two r1T r1B).enc ((oa8 x n).1,true),[]))
theorem pd2:d9 prog G 18 Ac7:=Ac6 Dd0 λx n r hr=>by
 obtain⟨hk,hr⟩:=DT.run_guard_some hr;unfold Pd2 at hk;rw[Qas] at hk;have e:oa8 x n=((oa8 x n).1,true):=Prod.ext rfl hk.2;rw[hk.1,e];exact hr
def vd0(x y:Tol):Bool:=rc0 x y&&qc9 x y
def Oc8:Sum:=Ha5 cT cT λx y=>.guard (vd0 x y) (.ret (b true,[]))
theorem Dd3:d9 prog G 20 Oc8:=Ac6 Pd1 λx n r hr=>by
 obtain⟨hk,hr⟩:=DT.run_guard_some hr;unfold vd0 at hk;rw[Qas] at hk;rw[hk.1,hk.2];exact hr
def Oc9(x y:List V3):Bool:=S6 x y&&S5 x y
def Ub1:Sum:=Ha5 (db5 tV) (db5 tV) λx y=>.guard (Oc9 x y) (.ret (b true,[]))
theorem Lc4:d9 prog G 23 Ub1:=Ac6 Sb8 λx n r hr=>by
 obtain⟨hk,hr⟩:=DT.run_guard_some hr;unfold Oc9 at hk;rw[Qas] at hk;rw[hk.1,hk.2];exact hr
def E21(r:Int):Int:=bif r==9 then 0 else 1
def F21(r:Int):Int:=bif r==9 then 3 else 0
def wb4(r h:Int):Bool:=Xa6 r h&&((F4 r h).2.2.1==E21 r&&(F4 r h).2.2.2==F21 r)
def nc4:Sum:=Ha5 cI cI λr h=>.guard (wb4 r h) (.ret ((bc9 (r1L tV) (r1L tV) r1I r1I).enc ((F4 r h).1,(F4 r h).2.1,E21 r,F21 r),[]))
theorem ld6:d9 prog G 21 nc4:=Ac6 mc9 λx n r hr=>by
 obtain⟨hk,hr⟩:=DT.run_guard_some hr;unfold wb4 at hk;rw[Qas,Qas,beq_iff_eq,beq_iff_eq] at hk;have e:F4 x n=((F4 x n).1,(F4 x n).2.1,E21 x,F21 x):=by rw[<- hk.2.1,<- hk.2.2]
 rw[hk.1,e];exact hr
def Uc3:List (Nat×Sum):=[(30,Rb1),(29,Tb9),(13,nc3),(31,Ub0),(18,Ac7),(21,nc4),(23,Ub1),(20,Oc8)]
theorem Lc5:l6 prog G Uc3:=⟨nc0,Lc1,ld5,Lc3,pd2,ld6,Lc4,Dd3,trivial⟩
def Ga5  : ROq:=let y1:=(T7 2);let t1:=(pa0 2);let t2:=(C4 [5] [rt tV t1]);let y2:=(rt (tLs tV) t2.inn);let t3:=(pa0 1);let y3:=((okE tV t3)&&true);let t4:=(C4 [5,9] [rt tV t1,rt tV t3]);let y0:=(⟨t4.nm,rt tV t4.ou,rt (tLs tV) t4.inn,rt tV t4.ho,rt tI t4.li,t4.ru,rt tV t4.fo⟩:Tol);let t5:=(C4 [0] [rt tV t1]);let t6:=(C4 [5,5] [rt tV t1,rt tV t3]);let t7:=(pa0 3);let t8:=(C4 [5,9] [rt tV t1,rt tV t7]);let t9:=(oa8 y0 6);let t10:=(F4 1 2);let t11:=(F4 5 1);let y4:=(List.length t11.1);let t13:=(C4 [9] [rt tV t3]);let a0:=((okE tV t4.ou)&&((okE (tLs tV) t4.inn)&&((okE tV t4.ho)&&((okE tI t4.li)&&((okE tV t4.fo)&&true)))));let a1:=((okE tV t2.ou)&&((okE (tLs tV) t2.inn)&&((okE tV t2.ho)&&((okE tI t2.li)&&((okE tV t2.fo)&&true)))));(sl y1 (sl ((okE tV t1)&&true) (sl (C5 [5] [rt tV t1]) (sl y1 (sl (T7 1) (sl ((okE tV t1)&&y3) (sl (C5 [5,9] [rt tV t1,rt tV t3]) (sl a1 (sl (V2 (⟨t2.nm,rt tV t2.ou,y2,rt tV t2.ho,rt tI t2.li,t2.ru,rt tV t2.fo⟩:Tol)) (sl a1 (sl (V2 (⟨⟨#[67]⟩,rt tV t2.ou,y2,rt tV t2.ho,rt tI t2.li,t2.ru,rt tV t2.fo⟩:Tol)) (sl ((okE tV t2.ou)&&((okE (tLs tV) t2.inn)&&((okE tV t2.ho)&&((okE tI t2.li)&&(true&&true))))) (sl (V2 (⟨t2.nm,rt tV t2.ou,y2,rt tV t2.ho,rt tI t2.li,t2.ru,[]⟩:Tol)) (sl a1 (sl (V2 (⟨t2.nm,rt tV t2.ou,y2,rt tV t2.ho,rt tI t2.li,3,rt tV t2.fo⟩:Tol)) (sl y1 (sl ((okE tV t1)&&true) (sl (C5 [0] [rt tV t1]) (sl ((okE tV t5.ou)&&((okE (tLs tV) t5.inn)&&((okE tV t5.ho)&&((okE tI t5.li)&&((okE tV t5.fo)&&true))))) (sl (V2 (⟨t5.nm,rt tV t5.ou,rt (tLs tV) t5.inn,rt tV t5.ho,rt tI t5.li,t5.ru,rt tV t5.fo⟩:Tol)) (sl a0 (sl (V2 y0) (sl y1 (sl (T7 1) (sl ((okE tV t1)&&y3) (sl (C5 [5,5] [rt tV t1,rt tV t3]) (sl ((okE tV t6.ou)&&((okE (tLs tV) t6.inn)&&((okE tV t6.ho)&&((okE tI t6.li)&&((okE tV t6.fo)&&true))))) (sl (V2 (⟨t6.nm,rt tV t6.ou,rt (tLs tV) t6.inn,rt tV t6.ho,rt tI t6.li,t6.ru,rt tV t6.fo⟩:Tol)) (sl y1 (sl (T7 3) (sl ((okE tV t1)&&((okE tV t7)&&true)) (sl (C5 [5,9] [rt tV t1,rt tV t7]) (sl ((okE tV t8.ou)&&((okE (tLs tV) t8.inn)&&((okE tV t8.ho)&&((okE tI t8.li)&&((okE tV t8.fo)&&true))))) (sl (V2 (⟨t8.nm,rt tV t8.ou,rt (tLs tV) t8.inn,rt tV t8.ho,rt tI t8.li,t8.ru,rt tV t8.fo⟩:Tol)) (sl a0 (sl (Ca0 y0 0 0) (sl a0 (sl (Ca0 y0 4 0) (sl a0 (sl (Ca0 y0 5 1) (sl a0 (sl (Ca0 y0 9 (-1)) (sl a0 (sl (Ca0 y0 (-1) (-1)) (sl a0 (sl (Pd2 y0 6) (sl (wb4 1 2) (sl (wb4 5 1) (sl (wb4 9 1) (sl (okE tV t10.1) (sl (Oc9 (rt tV t10.1) [(⟨-1,0,0⟩:V3),(⟨-1,0,2⟩:V3),(⟨0,-1,0⟩:V3),(⟨0,-1,2⟩:V3),(⟨0,1,0⟩:V3),(⟨0,1,2⟩:V3),(⟨1,0,0⟩:V3),(⟨1,0,2⟩:V3)]) (sl (okE tV t10.2.1) (sl (Oc9 (rt tV t10.2.1) [(⟨-1,-1,0⟩:V3),(⟨-1,-1,2⟩:V3),(⟨-1,1,0⟩:V3),(⟨-1,1,2⟩:V3),(⟨1,-1,0⟩:V3),(⟨1,-1,2⟩:V3),(⟨1,1,0⟩:V3),(⟨1,1,2⟩:V3)]) (sl (T7 1) (sl y3 (sl (C5 [9] [rt tV t3]) (sl ((okE tV t9.1.ou)&&((okE (tLs tV) t9.1.inn)&&((okE tV t9.1.ho)&&((okE tI t9.1.li)&&((okE tV t9.1.fo)&&true))))) (sl ((okE tV t13.ou)&&((okE (tLs tV) t13.inn)&&((okE tV t13.ho)&&((okE tI t13.li)&&((okE tV t13.fo)&&true))))) (sl (vd0 (⟨t9.1.nm,rt tV t9.1.ou,rt (tLs tV) t9.1.inn,rt tV t9.1.ho,rt tI t9.1.li,t9.1.ru,rt tV t9.1.fo⟩:Tol) (⟨t13.nm,rt tV t13.ou,rt (tLs tV) t13.inn,rt tV t13.ho,rt tI t13.li,t13.ru,rt tV t13.fo⟩:Tol)) (sl ((↑y4:Int)==16) (sl (inB 0 y4) (sl (((gL tV t11.1 0).x==(-5))&&(((gL tV t11.1 0).y==0)&&(((gL tV t11.1 0).z==0)&&true))) (sl (inB 2 y4) (sl (((gL tV t11.1 2).x==(-3))&&(((gL tV t11.1 2).y==(-3))&&(((gL tV t11.1 2).z==0)&&true))) (sl ((↑(List.length t11.2.1):Int)==16) (sl (inB 0 (List.length t11.2.1)) (some (b (((gL tV t11.2.1 0).x==(-5))&&(((gL tV t11.2.1 0).y==(-3))&&(((gL tV t11.2.1 0).z==0)&&true))),[])) none) (some (b false,[]))) (some (b false,[]))) none) (some (b false,[]))) none) (some (b false,[]))) none) none) none) none) none) none) none) none) none) none) none) none) none) none) none) none) none) none) none) none) none) none) none) none) none) none) none) none) none) none) none) none) none) none) none) none) none) none) none) none) none) none) none) none) none) none) none) none) none) none) none) none) none) none) none) none) none) none) none)
def Ya1  : Bool:=O8 (one r1B) Ga5
def Ya2  : Bool:=okO (one r1B) Ga5
def dc8:Sum:=Ud0  (.guard Ya2 (.ret ((one r1B).enc Ya1,[])))
theorem Uc4:d9 prog G 9 dc8:=uf2 (bd b9 Lc5) (one r1B) (o:=Ga5) (ha4 (by kernel_rfl))
structure B3 where
 b0:Int
 b1:Int
 b2:Int
def okB:List a7->Bool
 |[.v (.int .u8 _),.v (.int .u8 _),.v (.int .u8 _)]=>true
 |_=>false
def rdB:List a7->B3
 |[.v (.int .u8 x),.v (.int .u8 y),.v (.int .u8 z)]=>⟨x,y,z⟩
 |_=>⟨0,0,0⟩
def tW:Ty B3 where
 es:=3
 row x:=[.v (.int .u8 x.b0),.v (.int .u8 x.b1),.v (.int .u8 x.b2)]
 rd:=rdB
 ok:=okB
 cks:=List.replicate 3 (.int .u8)
 d:=⟨0,0,0⟩
 h0 _:=rfl
 h1 _:=rfl
 h2 _:=rfl
 h3 r h:=by
  unfold okB at h
  split at h
  ·exact .refl _
  ·cases h
 h4 _:=rfl
 h5 _:=rfl
structure B2 where
 d0:Int
 d1:Int
structure LL where
 u:List Int
 v:List Int
def dU:a7->Option Int
 |.v (.int .u8 n)=>some n
 |_=>none
theorem sf3{x:a7}{n:Int}(h:dU x=some n):x=.v (.int .u8 n):=by
 unfold dU at h
 split at h
 ·cases h;rfl
 ·cases h
def cU:Cod Int:=⟨λn=>.v (.int .u8 n),dU,λ_=>true,λ_ _ h _=>.of (sf3 h)⟩
def fa3:List (Nat×Sum):=[(9,dc8),(21,Ac3),(24,mc4),(25,qc8)]
theorem Mb7:l6 prog G fa3:=⟨Uc4,mc9,kd6,Oc7,trivial⟩
structure J2 where
 bs7:Bool
 (is8 is9:Int)
 (md4 md5:List V3)
 ae2:Int
 Ed3:List V3
 (We3 c9 e7 e8:Int)
structure B6 where
 ae3:Int
def Pa1(p:J2)(s:B6):St:=⟨ra 5 (.ptr 0 0 0 0::.unk::b p.bs7::i p.is8::i p.is9::eL tV p.md4::eL tV p.md5::i p.ae2::ra 47 (eL tV p.Ed3::i p.We3::i s.ae3::ra 224 [])),[bq 0 3 [[.v (.int .u8 p.c9),.v (.int .u8 p.e7),.v (.int .u8 p.e8)]]]⟩
def E4{α:Type}(k:B6->α)(e:Nat->α)(z:α)(p:J2)(s:B6):α:=let y0:=(gL tV p.Ed3 s.ae3.toNat);(sl (decide (s.ae3<p.We3)) (sl (inB s.ae3 (List.length p.Ed3)) (sl (decide ((W ((W (y0.x*y0.x))+(W (y0.y*y0.y))))>(W (p.is8*p.is8)))) (e 1) (sl (y0.z != 0) (sl (y0.z != p.is9) (e 1) (k ⟨W (s.ae3+1)⟩)) (k ⟨W (s.ae3+1)⟩))) z) (e 2))
def Y4(p:J2)(s:B6):Stp B6:=E4 .next .exit .fail p s
def va5:Lo J2 B6:=⟨En fa3,0,pf6,[1,1,1,1,1,0,1,4,4],[5,7,8,9,10,11,12,60,61,62],.p,[⟨ru2 5 (sPq 0::sUq::sBq::sIq::sIq::sLq tV::sLq tV::sIq::ru2 47 (sLq tV::sIq::sIq::ru2 224 [])),[⟨0,3,true,some [[.o (.int .u8),.o (.int .u8),.o (.int .u8)]]⟩],λa H=>(⟨aBq a 7,aIq a 8,aIq a 9,aLq tV a 10,aLq tV a 11,aIq a 12,aLq tV a 60,aIq a 61,hIq H 0 0 0,hIq H 0 0 1,hIq H 0 0 2⟩,⟨aIq a 62⟩)⟩],Y4,[(none,λp s=>⟨[b false],[]⟩),(some 0,λp s=>upq (Pa1 p s) [(63,b (decide (s.ae3<p.We3)))])],Pa1⟩
theorem Ib0:va5.Ok:=Qjh [] .nil λp s=>(.ofq @E4)
structure J3 where
 bs7:Bool
 (is8 is9:Int)
 (md4 md5:List V3)
 ae2:Int
 Ed4:List V3
 (We4 c9 e7 e8:Int)
structure B7 where
 (Ya3 ae4:Int)
def Pa2(p:J3)(s:B7):St:=⟨ra 5 (.ptr 0 0 0 0::.unk::b p.bs7::i p.is8::i p.is9::eL tV p.md4::eL tV p.md5::i p.ae2::ra 3 (i s.Ya3::ra 76 (eL tV p.Ed4::i p.We4::i s.ae4::ra 191 []))),[bq 0 3 [[.v (.int .u8 p.c9),.v (.int .u8 p.e7),.v (.int .u8 p.e8)]]]⟩
def E5{α:Type}(k:B7->α)(e:Nat->α)(z:α)(p:J3)(s:B7):α:=let y1:=(gL tV p.Ed4 s.ae4.toNat);let y0:=(W ((W (y1.x*y1.x))+(W (y1.y*y1.y))));(sl (decide (s.ae4<p.We4)) (sl (inB s.ae4 (List.length p.Ed4)) (sl (y1.z != 0) (sl (y1.z != p.is9) (e 1) (k ⟨(if y0>s.Ya3 then y0 else s.Ya3),W (s.ae4+1)⟩)) (k ⟨(if y0>s.Ya3 then y0 else s.Ya3),W (s.ae4+1)⟩)) z) (e 2))
def Y5(p:J3)(s:B7):Stp B7:=E5 .next .exit .fail p s
def va6:Lo J3 B7:=⟨En fa3,0,pf6,[1,1,1,1,1,1,1,0,1,4,4],[5,7,8,9,10,11,12,16,93,94,95],.p,[⟨ru2 5 (sPq 0::sUq::sBq::sIq::sIq::sLq tV::sLq tV::sIq::ru2 3 (sIq::ru2 76 (sLq tV::sIq::sIq::ru2 191 []))),[⟨0,3,true,some [[.o (.int .u8),.o (.int .u8),.o (.int .u8)]]⟩],λa H=>(⟨aBq a 7,aIq a 8,aIq a 9,aLq tV a 10,aLq tV a 11,aIq a 12,aLq tV a 93,aIq a 94,hIq H 0 0 0,hIq H 0 0 1,hIq H 0 0 2⟩,⟨aIq a 16,aIq a 95⟩)⟩],Y5,[(none,λp s=>⟨[b false],[]⟩),(some 2,λp s=>upq (Pa2 p s) [(96,b (decide (s.ae4<p.We4)))])],Pa2⟩
theorem Ib1:va6.Ok:=Qjh [] .nil λp s=>(.ofq @E5)
structure J4 where
 bs7:Bool
 (is8 is9:Int)
 (md4 md5:List V3)
 kf7:PLq
 Bf8:Int
 Zc4:PLq
 (ie3 c9 e7 e8:Int)
structure B9 where
 vd4:Int
def Pa3(p:J4)(s:B9):St:=⟨ra 5 (.ptr 0 0 0 0::.unk::b p.bs7::i p.is8::i p.is9::eL tV p.md4::eL tV p.md5::ra 7 (eL tP p.kf7::i p.Bf8::ra 132 (eL tP p.Zc4::i p.ie3::i s.vd4::ra 131 []))),[bq 0 3 [[.v (.int .u8 p.c9),.v (.int .u8 p.e7),.v (.int .u8 p.e8)]]]⟩
def E6{α:Type}(k:B9->α)(e:Nat->α)(z:α)(p:J4)(s:B9):α:=let y2:=(W (s.vd4+1));let y0:=(gL tP p.Zc4 s.vd4.toNat);let y4:=((y0.n.x==0)&&((y0.n.y==0)&&((y0.n.z==1)&&true)));let y3:=((y0.n.x==0)&&((y0.n.y==0)&&((y0.n.z==(-1))&&true)));let y1:=(!(decide ((W (y0.b*y0.b))>=(W ((W (p.is8*p.is8))*(W ((W (y0.n.x*y0.n.x))+(W (y0.n.y*y0.n.y)))))))));let w0:α:=(sl y3 (sl y1 (sl (!(y0.b==0)) (e 1) (k ⟨y2⟩)) (k ⟨y2⟩)) (sl y1 (e 1) (k ⟨y2⟩)));let w1:α:=(sl y3 (sl (!(y0.b==0)) (e 1) (k ⟨y2⟩)) (e 1));let w2:α:=(sl y4 (sl (y0.b==p.is9) (k ⟨y2⟩) w1) w1);(sl (decide (s.vd4<p.ie3)) (sl (inB s.vd4 (List.length p.Zc4)) (sl (y0.n.z==0) (sl (decide (y0.b>=0)) (sl y4 (sl (y0.b==p.is9) (sl y1 (k ⟨y2⟩) (k ⟨y2⟩)) w0) w0) w2) w2) z) (e 2))
def Y6(p:J4)(s:B9):Stp B9:=E6 .next .exit .fail p s
def va7:Lo J4 B9:=⟨En fa3,0,pf6,[1,1,1,1,1,1,1,1,1,1,0,1,4,4],[5,7,8,9,10,11,19,20,153,154,155],.p,[⟨ru2 5 (sPq 0::sUq::sBq::sIq::sIq::sLq tV::sLq tV::ru2 7 (sLq tP::sIq::ru2 132 (sLq tP::sIq::sIq::ru2 131 []))),[⟨0,3,true,some [[.o (.int .u8),.o (.int .u8),.o (.int .u8)]]⟩],λa H=>(⟨aBq a 7,aIq a 8,aIq a 9,aLq tV a 10,aLq tV a 11,aLq tP a 19,aIq a 20,aLq tP a 153,aIq a 154,hIq H 0 0 0,hIq H 0 0 1,hIq H 0 0 2⟩,⟨aIq a 155⟩)⟩],Y6,[(none,λp s=>⟨[b false],[]⟩),(some 4,λp s=>upq (Pa3 p s) [(156,b (decide (s.vd4<p.ie3)))])],Pa3⟩
theorem Ib2:va7.Ok:=Qjh [] .nil λp s=>(.ofq @E6)
def W7(x:Int)(y:Int)(z:B3):ROq:=let y4:=(W ((Int.tmod (W z.b1) 17)-8));let y3:=(W ((Int.tmod (W z.b0) 17)-8));let y0:=(⟨y3,y4,Int.tmod (W z.b2) 13⟩:V3);let t1:=Ya1;let a1:=(W (1+(Int.tmod (W x) 8)));let a2:=(W (1+(Int.tmod (W y) 12)));let y2:=(decide ((Int.tmod (W z.b2) 13)<=a2));let t2:=(F4 a1 a2);let y7:=(rt tV (rt tV t2.1));let y5:=(W (a1+t2.2.2.1));let y1:=(rt tV (rt tV t2.2.1));let t3:=(lp (Y4 (⟨t1,a1,a2,rt tV t2.1,rt tV t2.2.1,t2.2.2.1,rt tV t2.1,(↑(List.length t2.1):Int),z.b0,z.b1,z.b2⟩:J2)) (⟨0⟩:B6));let t4:=(lp (Y5 (⟨t1,a1,a2,y7,y1,t2.2.2.1,y1,(↑(List.length (rt tV t2.2.1)):Int),z.b0,z.b1,z.b2⟩:J3)) (⟨0,0⟩:B7));let a0:=(rt tV y7);let y6:=(bb5 (rt tV a0) y0);let t7:=(bb4 (rt tV a0) y0);let a3:=(rt tV y1);let t5:=(db0 a3);let t6:=(lp (Y6 (⟨t1,a1,a2,a0,a3,rt tP t5.1,t5.2,rt tP t5.1,(↑(List.length t5.1):Int),z.b0,z.b1,z.b2⟩:J4)) (⟨0⟩:B9));let t8:=(bb4 (rt tV a3) y0);let a4:=(decide ((↑(List.length (rt tP t5.1)):Int)>=6));let w0:ROq:=(sl (okE tV y1) (sl (Gb8 a3) (sl ((cnE tV y7)&&((cnE tV y1)&&((cnE tP t5.1)&&((cnE tP t5.1)&&true)))) (sl (Nat.beq t6.1 1) (some (b false,[])) (sl (Nat.beq t6.1 2) (sl (decide ((W ((W (y3*y3))+(W (y4*y4))))<=(W (a1*a1)))) (sl t1 (sl (t5.2==0) (sl a4 (sl (!y2) (sl y2 (some (b true,[])) (sl (okE tV a0) (sl y6 (some (b (!t7),[])) none) none)) (sl (okE tV a3) (sl (bb5 (rt tV a3) y0) (sl t8 (sl y2 (some (b true,[])) (sl (okE tV a0) (sl y6 (some (b (!t7),[])) none) none)) (some (b false,[]))) none) none)) (some (b false,[]))) (some (b false,[]))) (some (b false,[]))) (sl t1 (sl (t5.2==0) (sl a4 (sl (okE tV a0) (sl y6 (some (b (!t7),[])) none) none) (some (b false,[]))) (some (b false,[]))) (some (b false,[])))) none)) none) none) none);(sl Ya2 (sl (Xa6 a1 a2) (sl (t2.2.2.2 != 0) (some (b false,[])) (sl (decide (t2.2.2.1<0)) (some (b false,[])) (sl (decide ((↑(List.length t2.1):Int)<8)) (some (b false,[])) (sl (decide ((↑(List.length t2.2.1):Int)<8)) (some (b false,[])) (sl ((cnE tV t2.1)&&((cnE tV t2.2.1)&&((cnE tV t2.1)&&true))) (sl (Nat.beq t3.1 1) (some (b false,[])) (sl (Nat.beq t3.1 2) (sl ((cnE tV (rt tV t2.1))&&((cnE tV (rt tV t2.2.1))&&((cnE tV (rt tV t2.2.1))&&true))) (sl (Nat.beq t4.1 1) (some (b false,[])) (sl (Nat.beq t4.1 2) (sl (decide (t4.2.Ya3>(W (y5*y5)))) (some (b false,[])) (sl (decide (t2.2.2.1>0)) (sl (decide (t4.2.Ya3<=(W ((W (y5-1))*(W (y5-1)))))) (some (b false,[])) w0) w0)) none)) none) none)) none))))) none) none)
def ka7(x:Int)(y:Int)(z:B3):Bool:=O8 (one r1B) (W7 x y z)
def ka8(x:Int)(y:Int)(z:B3):Bool:=okO (one r1B) (W7 x y z)
def Vb2:Sum:=Ub4 cU cU (Za5 tW) (λx y z=>.guard (ka8 x y z) (.ret ((one r1B).enc (ka7 x y z),[])))
theorem Rb4:d9 prog G 6 Vb2:=mf0 (bd b6 Mb7) (one r1B) (o:=W7) λx y z=>ha5 (.s .p (.s .p (.s .p (.s .p (.s .p (.s (.s .p (.b (.u va5.ls))) (.s .p (.s (.s .p (.b (.u va6.ls))) (.s .p (.s .p (.s (.s .p (.b (.u va7.ls))) .p))))))))))) [va5.pr,va6.pr,va7.pr] (.cons Ib0 (.cons Ib1 (.cons Ib2 .nil)))
def rch(n e:V3):Int:=(n.x.natAbs:Int)*e.x+(n.y.natAbs:Int)*e.y+(n.z.natAbs:Int)*e.z
def pq(e:V3)(s:Int)(p:Pln):Pln:=⟨p.n,p.b+s*rch p.n e⟩
def okq(e:V3)(s:Int)(p:Pln):Bool:=okp p&&smb 2097152 (p.b+s*rch p.n e)
structure B12(e:V3):Prop where
 x1:0<=e.x
 x2:e.x<=12
 y1:0<=e.y
 y2:e.y<=12
 z1:0<=e.z
 z2:e.z<=12
section
variable(c:PLq)(e:V3)(s:Int)
structure PI(j:Nat)(o:PLq):Prop where
 le:j<=c.length
 o:o=(c.take j).map (pq e s)
 a:(c.take j).all (okq e s)=true
end
section
variable(c:PLq)(e:V3)(hc:c.length<=1000000)
include hc
end
theorem ge6(l:List V3)(hl:l.length<=1000000000):Fa2 l l=some (b true,[]):=by
 have he:∀v:V3,(v.x==v.x&&(v.y==v.y&&(v.z==v.z&&true)))=true:=λv=>by simp
 have h:=Xd0 (step:=oa4 ⟨l,l⟩) (mk:=λj=>(⟨(j:Int)⟩:Ye7)) (c:=λ_=>false) (u:=1) (fin:=2) tV l hl
  (λj hj=>by
   simp only[oa4,xa4,Int.toNat_natCast,D2 hj (by omega),he]
   rw[btD (Q6 hj),bt (i9 hj),bt (i9 hj)]
   rfl)
  (by simp only[oa4,xa4];rw[bfD (Z3 (Qid _))]) 0 (Qbw _)
 rw[Qim,show (l.any λ_=>false)=false by simp] at h
 unfold Fa2;simp only[i8,j6];rw[show (⟨0⟩:Ye7)=⟨((0:Nat):Int)⟩ from rfl,h,bf (by simp)]
 rfl
theorem ge7(l:List V3)(hl:l.length<=1000000000):S5 l l=true:=by unfold S5;rw[ge6 l hl];rfl
theorem ge8(l:List V3)(hl:l.length<=1000000000):S6 l l=true:=by unfold S6;rw[ge6 l hl];rfl
theorem dc9:∀(l r:List V3),l.Pairwise LtV->r.Pairwise LtV->(∀v,v∈l↔v∈r)->l=r
 |[],[],_,_,_=>rfl
 |[],y::r,_,_,h=>absurd ((h y).2 (Qch ..)) (by simp)
 |x::l,[],_,_,h=>absurd ((h x).1 (Qch ..)) (by simp)
 |x::l,y::r,h1,h2,h=>by
  obtain⟨a1,a2⟩:=Qif.1 h1;obtain⟨b1,b2⟩:=Qif.1 h2;have e:x=y:=by
   rcases Qbi.1 ((h x).1 (Qch ..)) with e|hx
   ·exact e
   ·rcases Qbi.1 ((h y).2 (Qch ..)) with e|hy
    ·exact e.symm
    ·exact absurd (Jc2 (b1 x hx) (a1 y hy)) (yc9 y)
  subst e
  have:l=r:=dc9 l r a2 b2 λv=>by
   have hv:=h v;simp only[Qbi] at hv;constructor
   ·intro hm
    rcases hv.1 (.inr hm) with e|h'
    ·subst e;exact absurd (a1 v hm) (yc9 v)
    ·exact h'
   ·intro hm
    rcases hv.2 (.inr hm) with e|h'
    ·subst e;exact absurd (b1 v hm) (yc9 v)
    ·exact h'
  rw[this]
def N46(n:V3):Prop:=Sm 4608 n.x/\Sm 4608 n.y/\Sm 4608 n.z
section
variable(N:List V3)(hN:∀n∈N,N46 n)(hl:N.length<=1000000)
include hN hl
end
theorem Dd4{l:List V3}(hl:l.all inV=true):∀p∈ws,∀v∈l,dot p.n v<=p.b:=λp hp v hv=>by
 have:=gf8 (Qcb.1 hl v hv) p hp
 simp only[rmZ,ipt,dot] at this ⊢;omega
section
variable{l:List V3}(hl:l.all inV=true)(h4:Sol l)
include hl
theorem Ac8(v:V3):v∈Ea8 (F0 l) l↔v∈l/\Spn (F0 l) v:=by
 unfold Ea8;rw[Qff,hc3];exact⟨λh=>⟨h.1,(Ee4 hl h.1).1 h.2⟩,λh=>⟨h.1,(Ee4 hl h.1).2 h.2⟩⟩
include h4
theorem ob8{n:V3}{b:Int}(hv:∀v∈Ea8 (F0 l) l,dot n v<=b):∀x∈l,dot n x<=b:=by
 have hfacs:=Bd4 hl λp hp=>(E9 hl p).2 hp
 have hall:∀p∈F0 l++ws,∀v∈l,dot p.n v<=p.b:=λp hp=>by
  rcases Qiai.1 hp with hp|hp
  ·exact ((E9 hl p).1 hp).hd
  ·exact Dd4 hl p hp
 intro x hx;have hz:∀(a:Pln) (v:V3),rmZ a ⟨v.x,v.y,v.z,1⟩=a.b-dot a.n v:=λa v=>by simp only[rmZ,dot];omega
 have hI:Inr (F0 l++ws) ⟨x.x,x.y,x.z,1⟩:=⟨by show (0:Int)<1;omega,λp hp=>by rw[hz];have:=hall p hp x hx;omega⟩
 have key:=ma9 (Xd7 (F0 l)) (h:=⟨n,b⟩) (λy hy=>by
  obtain⟨v,hvl,he,hs⟩:=fe6 h4 hfacs hall hy;have h1:=hv v ((Ac8 hl v).2 ⟨hvl,hs⟩);have h2:=he.rm ⟨n,b⟩;rw[hz] at h2;have hw:=hy.w;have h3:0<=(b-dot n v)*y.pw:=Qic (by omega) (by omega)
  have h4:rmZ ⟨n,b⟩ y*1=(b-dot n v)*y.pw:=h2
  omega) hI
 rw[hz] at key;have key:0<=b-dot n x:=key;omega
theorem db1{v:V3}(hv:v∈Ea8 (F0 l) l):v∈l:=((Ac8 hl v).1 hv).1
theorem if7:∃v,v∈Ea8 (F0 l) l:=by
 apply Qeb;intro hno;obtain⟨x,hx⟩:=h4.ne
 have:=ob8 hl h4 (n:=⟨0,0,0⟩) (b:=-1) (λv hv=>absurd ⟨v,hv⟩ hno) x hx
 simp[dot] at this
theorem Te1:Sol (Ea8 (F0 l) l):=by
 obtain⟨a,ha⟩:=if7 hl h4
 rcases Bd3 ((Ea8 (F0 l) l).map λv=>p6 v a) with⟨x,y,z,hx,hy,hz,hw⟩|⟨d,hd,h⟩
 ·obtain⟨u,hu,rfl⟩:=Qbr.1 hx;obtain⟨v,hv,rfl⟩:=Qbr.1 hy;obtain⟨w,hw',rfl⟩:=Qbr.1 hz;exact⟨a,v,w,u,ha,hv,hw',hu,λe=>hw (by rw[<- e];simp only[dot,d7,N3];grind)⟩
 ·exfalso;have e:∀v∈Ea8 (F0 l) l,dot d v=dot d a:=λv hv=>by
   have:=h _ (Qbr.2 ⟨v,hv,rfl⟩)
   simp only[dot,p6] at this ⊢
   grind
  obtain⟨v,hv,hne⟩:=h4.off hd (dot d a);have h1:=ob8 hl h4 (n:=d) (b:=dot d a) (λw hw=>by rw[e w hw];exact Qkf _) v hv
  have h2:=ob8 hl h4 (n:=neg d) (b:=-dot d a) (λw hw=>by
   have:=e w hw
   have h3:dot (neg d) w=-dot d w:=by simp only[dot,neg];grind
   omega) v hv
  have h3:dot (neg d) v=-dot d v:=by simp only[dot,neg];grind
  omega
theorem ge9:(Ea8 (F0 l) l).all inV=true:=Qcb.2 λv hv=>Qcb.1 hl v (db1 hl h4 hv)
theorem Te2{p:Pln}(hp:Ub7 l p):Ub7 (Ea8 (F0 l) l) p:=by
 refine⟨⟨λv hv=>hp.hd v (db1 hl h4 hv),?_⟩,hp.ok⟩
 obtain⟨u,w,x,hu,hw,hx,h3,t1,t2,t3⟩:=hp.on
 -- a Xd6 on the plane
 obtain⟨a,ha,ta⟩:∃a∈Ea8 (F0 l) l,dot p.n a=p.b:=by
  apply Qeb;intro hno
  have:=ob8 hl h4 (n:=p.n) (b:=p.b-1) (λv hv=>by
   have h1:=hp.hd v (db1 hl h4 hv);have h2:dot p.n v≠p.b:=λe=>hno ⟨v,hv,e⟩
   omega) u hu
  omega
 rcases Bd3 (p.n::(((Ea8 (F0 l) l).filter λv=>dot p.n v==p.b).map λv=>p6 v a)) with⟨n1,n2,n3,k1,k2,k3,hne⟩|⟨d,hd,hz⟩
 ·have on : ∀ {n}, n ∈ p.n :: (((Ea8 (F0 l) l).filter fun v => dot p.n v == p.b).map fun v => p6 v a) → n = p.n ∨ ∃ v ∈ Ea8 (F0 l) l, dot p.n v = p.b ∧ n = p6 v a := fun {n} hn => by
   rcases Qbi.1 hn with e|hn
   ·exact .inl e
   ·obtain⟨v,hv,rfl⟩:=Qbr.1 hn;obtain⟨h1,h2⟩:=Qff.1 hv;exact .inr ⟨v,h1,beq_iff_eq.1 h2,rfl⟩
  have fin:∀{v1 v2:V3},v1∈Ea8 (F0 l) l->v2∈Ea8 (F0 l) l->dot p.n v1=p.b->dot p.n v2=p.b->dot p.n (d7 (p6 v1 a) (p6 v2 a))≠0->∃u w x,u∈Ea8 (F0 l) l/\w∈Ea8 (F0 l) l/\x∈Ea8 (F0 l) l/\N3 u w x≠⟨0,0,0⟩/\dot p.n u=p.b/\dot p.n w=p.b/\dot p.n x=p.b:=λ{v1 v2} hv1 hv2 e1 e2 h=>⟨a,v1,v2,ha,hv1,hv2,td9 h,ta,e1,e2⟩
  rcases on k1 with rfl|⟨v1,m1,e1,rfl⟩<;>rcases on k2 with rfl|⟨v2,m2,e2,rfl⟩<;>rcases on k3 with rfl|⟨v3,m3,e3,rfl⟩
  ·exact absurd (by simp only[dot,d7];grind) hne
  ·exact absurd (by simp only[dot,d7];grind) hne
  ·exact absurd (by simp only[dot,d7];grind) hne
  ·exact fin m2 m3 e2 e3 hne
  ·exact absurd (by simp only[dot,d7];grind) hne
  ·exact fin m3 m1 e3 e1 λe=>hne (by rw[<- e];simp only[dot,d7];grind)
  ·exact fin m1 m2 e1 e2 λe=>hne (by rw[<- e];simp only[dot,d7];grind)
  ·exfalso;have q:∀v:V3,dot p.n v=p.b->dot p.n (p6 v a)=0:=λv e=>by
    have:dot p.n (p6 v a)=dot p.n v-dot p.n a:=by simp only[dot,p6];grind
    omega
   have r1:=q v1 e1;have r2:=q v2 e2;have r3:=q v3 e3;have hw:mw ⟨p6 v1 a,0⟩ ⟨p6 v2 a,0⟩ ⟨p6 v3 a,0⟩≠0:=hne;refine yc5 hp.ok (bc5 hw ?_ ?_ ?_)
   ·rw[<- r1];simp only[dot];grind
   ·rw[<- r2];simp only[dot];grind
   ·rw[<- r3];simp only[dot];grind
 ·exfalso;have hdn:dot p.n d=0:=hz _ Qch;have hdv:∀v∈Ea8 (F0 l) l,dot p.n v=p.b->dot d v=dot d a:=λv hv e=>by
   have:=hz _ (Qck _ (Qbr.2 ⟨v,Qff.2 ⟨hv,beq_iff_eq.2 e⟩,rfl⟩))
   simp only[dot,p6] at this ⊢
   grind
  -- one of the lf9 points is off the line
  have hoff:¬ (dot d u=dot d a/\dot d w=dot d a/\dot d x=dot d a):=λ⟨g1,g2,g3⟩=>by
   have ht:=(xa3 (Wa5 (Qcb.1 hl u hu) (Qcb.1 hl w hw) (Qcb.1 hl x hx) h3)).2;have hm:mw p ⟨p6 w u,0⟩ ⟨p6 x u,0⟩≠0:=by
    have hN:mw p ⟨p6 w u,0⟩ ⟨p6 x u,0⟩=dot p.n (N3 u w x):=rfl;rw[hN];intro e;obtain⟨_,⟨g,hg,f1,f2,f3⟩,_⟩:=ht;have f1:g*(I6 u w x).1.n.x=(N3 u w x).x:=f1;have f2:g*(I6 u w x).1.n.y=(N3 u w x).y:=f2;have f3:g*(I6 u w x).1.n.z=(N3 u w x).z:=f3;have e2:g*dot p.n (I6 u w x).1.n=0:=by rw[<- e];simp only[dot];rw[<- f1,<- f2,<- f3];grind
    have e3:=(Qia.1 e2).resolve_left (by omega)
    have hpn:=yc5 hp.ok;have hpos:=fe7 hpn
    rcases bc6 ((xa3 (Wa5 (Qcb.1 hl u hu) (Qcb.1 hl w hw) (Qcb.1 hl x hx) h3)).2) hp.ok t1 t2 t3 with hq|hq
    ·rw[<- hq] at e3;omega
    ·have : dot p.n (I6 u w x).1.n = -dot p.n p.n := by
      have h5:p.n=⟨-(I6 u w x).1.n.x,-(I6 u w x).1.n.y,-(I6 u w x).1.n.z⟩:=congrArg Pln.n hq;have h6:(I6 u w x).1.n=⟨-p.n.x,-p.n.y,-p.n.z⟩:=by
       rw[h5];simp
      rw[h6];simp only[dot]
      grind
     omega
   refine hd (bc5 hm hdn ?_ ?_)
   ·show dot (p6 w u) d=0
    have:dot (p6 w u) d=dot d w-dot d u:=by simp only[dot,p6];grind
    omega
   ·show dot (p6 x u) d=0
    have:dot (p6 x u) d=dot d x-dot d u:=by simp only[dot,p6];grind
    omega
  -- so a plane that is turned a little would rf7 it out
  have main:∀(e:V3) (t:V3),t∈l->dot p.n t=p.b->(∀v∈Ea8 (F0 l) l,dot p.n v=p.b->dot e v=dot e a)->dot e t<=dot e a:=λe t ht hte hev=>by
   obtain⟨N,hN,hbig⟩:=big e ((Ea8 (F0 l) l).map λv=>⟨p6 v a,0⟩)
   have:=ob8 hl h4 (n:=⟨e.x+N*p.n.x,e.y+N*p.n.y,e.z+N*p.n.z⟩) (b:=dot e a+N*p.b) (λv hv=>by
    have h1:dot ⟨e.x+N*p.n.x,e.y+N*p.n.y,e.z+N*p.n.z⟩ v=dot e v+N*dot p.n v:=by simp only[dot];grind
    rw[h1];by_cases hvp:dot p.n v=p.b
    ·rw[hvp,hev v hv hvp];exact Qkf _
    ·have h2:=hp.hd v (db1 hl h4 hv);have h3:=(hbig _ (Qbr.2 ⟨v,hv,rfl⟩)).1;have h4:dot (p6 v a) e=dot e v-dot e a:=by simp only[dot,p6];grind
     have h3:dot (p6 v a) e<=N:=h3;have h5:N*dot p.n v<=N*(p.b-1):=Qir (by omega) (by omega)
     rw[Int.mul_sub,Int.mul_one] at h5
     omega) t ht
   have h1:dot ⟨e.x+N*p.n.x,e.y+N*p.n.y,e.z+N*p.n.z⟩ t=dot e t+N*dot p.n t:=by simp only[dot];grind
   rw[h1,hte] at this;omega
  have both:∀t,t∈l->dot p.n t=p.b->dot d t=dot d a:=λt ht hte=>by
   have g1:=main d t ht hte hdv;have g2:=main (neg d) t ht hte (λv hv e=>by
    have:=hdv v hv e
    have q1:∀z:V3,dot (neg d) z=-dot d z:=λz=>by simp only[dot,neg];grind
    rw[q1,q1];omega)
   have q1:∀z:V3,dot (neg d) z=-dot d z:=λz=>by simp only[dot,neg];grind
   rw[q1,q1] at g2;omega
  exact hoff ⟨both u hu t1,both w hw t2,both x hx t3⟩
theorem Fe8:F0 (Ea8 (F0 l) l)=F0 l:=by
 refine gc8 (qc5 _) (qc5 _) λp=>?_
 rw[E9 (ge9 hl h4),E9 hl];refine⟨λh=>⟨⟨ob8 hl h4 h.hd,?_⟩,h.ok⟩,λh=>Te2 hl h4 h⟩
 obtain⟨u,w,x,hu,hw,hx,hr⟩:=h.on;exact⟨u,w,x,db1 hl h4 hu,db1 hl h4 hw,db1 hl h4 hx,hr⟩
end
structure Ins(r:PLq)(x:Pt):Prop where
 w:0<x.pw
 h:∀p∈r,0<rmZ p x
theorem Ins.inr{r:PLq}{x:Pt}(h:Ins r x):Inr r x:=⟨h.w,λp hp=>Qib (h.h p hp)⟩
theorem Ins.mono{r r':PLq}{x:Pt}(h:Ins r x)(hs:∀p∈r',p∈r):Ins r' x:=⟨h.w,λp hp=>h.h p (hs p hp)⟩
theorem Inr.mono{r r':PLq}{x:Pt}(h:Inr r x)(hs:∀p∈r',p∈r):Inr r' x:=⟨h.w,λp hp=>h.h p (hs p hp)⟩
theorem Ins.app{r r':PLq}{x:Pt}(h:Ins r x)(h':Ins r' x):Ins (r++r') x:=⟨h.w,λp hp=>(Qiai.1 hp).elim (h.h p) (h'.h p)⟩
theorem Inr.app{r r':PLq}{x:Pt}(h:Inr r x)(h':Inr r' x):Inr (r++r') x:=⟨h.w,λp hp=>(Qiai.1 hp).elim (h.h p) (h'.h p)⟩
theorem far{f g:Pln->Int}:∀l:PLq,(∀p∈l,0<f p)->∃N:Int,0<=N/\∀M,N<=M->∀p∈l,0<M*f p+g p
 |[],_=>⟨0,Qkf _,λ_ _ p hp=>by cases hp⟩
 |a::l,h=>by
  obtain⟨N,h0,h1⟩:=far l λp hp=>h p (Qck _ hp)
  have ha:=h a Qch;refine⟨max N ((g a).natAbs+1),by omega,λM hM p hp=>?_⟩
  rcases Qbi.1 hp with rfl|hp
  ·have:M*1<=M*f p:=Qir (by omega) (by omega)
   omega
  ·exact h1 M (by omega) p hp
theorem if8:∀p∈ws,okp p=true:=Qcb.1 (by decide)
theorem ld7{n:V3}(h:n≠⟨0,0,0⟩):0<dot n n:=by
 have k:∀a:Int,0<=a*a/\(a≠0->0<a*a):=λa=>by
  rcases Int.lt_trichotomy a 0 with h|h|h
  ·have:=Qki h h;exact⟨by omega,λ_=>this⟩
  ·subst h;exact⟨by decide,λh=>absurd rfl h⟩
  ·have:=Qio h h;exact⟨by omega,λ_=>this⟩
 unfold dot
 have:=k n.x;have:=k n.y;have:=k n.z
 by_cases hx:n.x=0
 ·by_cases hy:n.y=0
  ·by_cases hz:n.z=0
   ·exact absurd (V3.ext' hx hy hz) h
   ·have:=(k n.z).2 hz;omega
  ·have:=(k n.y).2 hy;omega
 ·have:=(k n.x).2 hx;omega
theorem dd8{c:PLq}(h:(chk c==0)=true):∀p∈c++ws,okp p=true:=λp hp=>by
 rw[beq_iff_eq,id6] at h
 rcases Qiai.1 hp with hp|hp
 ·exact h.2 p hp
 ·exact if8 p hp
def Fv:V3:=⟨10000,100,1⟩
structure Crs(l:List V3)(p:Pln)(v:V3):Prop where
 h:∃u w,u∈l/\w∈l/\dot p.n u=p.b/\dot p.n w=p.b/\dot Fv w<dot Fv v/\dot Fv v<dot Fv u/\N3 v u w≠⟨0,0,0⟩
 on:dot p.n v=p.b
section
variable{l:List V3}(hl:l.all inV=true)
include hl
theorem ld8(hs:Sol l){p q:Pln}(hp:Ub7 l p)(hq:Ub7 l q){u w x:V3}(hu:u∈l)(hw:w∈l)(hx:x∈l)(h3:N3 u w x≠⟨0,0,0⟩)(p1:dot p.n u=p.b)(p2:dot p.n w=p.b)(p3:dot p.n x=p.b)(q1:dot q.n u=q.b)(q2:dot q.n w=q.b)(q3:dot q.n x=q.b):p=q:=by
 have hi:=Qcb.1 hl;have hT:=(xa3 (Wa5 (hi u hu) (hi w hw) (hi x hx) h3)).2;have fl:∀{p:Pln},Ub7 l p->Ub7 l (ha0 p)->False:=λ{p} h h'=>by
  obtain⟨v,hv,hne⟩:=hs.off (yc5 h.ok) p.b;have a:=h.hd v hv;have c:=h'.hd v hv;rw[bc4] at c;have c:-dot p.n v<=-p.b:=c;omega
 rcases bc6 hT hp.ok p1 p2 p3 with e|e<;>rcases bc6 hT hq.ok q1 q2 q3 with e'|e'
 ·rw[e,e']
 ·rw[e',<- e] at hq;exact (fl hp hq).elim
 ·rw[e,<- e'] at hp;exact (fl hq hp).elim
 ·rw[e,e']
end
theorem Pd3{α β:Type}{R:α->β->Prop}{X:List α}{L:List β}(hX:X.Nodup)(h:∀q∈X,∃y∈L,R q y)(hi:∀q∈X,∀r∈X,∀y,R q y->R r y->q=r):X.length<=L.length:=by
 have h':∀q:{ q // q∈X },∃y,y∈L/\R q.1 y:=λq=>by
  obtain⟨y,h1,h2⟩:=h q.1 q.2;exact⟨y,h1,h2⟩
 obtain⟨f,hf⟩:=Classical.axiomOfChoice h';have hn:(X.attach.map f).Nodup:=by
  unfold List.Nodup;rw[List.pairwise_map];have hXa:X.attach.Nodup:=by
   unfold List.Nodup;have h0:(X.attach.map Subtype.val).Nodup:=by rw[List.attach_map_subtype_val];exact hX
   unfold List.Nodup at h0;rw[List.pairwise_map] at h0;exact h0.imp λhne e=>hne (by rw[e])
  refine List.Pairwise.imp (λ{a c} hne e=>hne (Subtype.ext (hi a.1 a.2 c.1 c.2 (f a) (hf a).2 (by rw[e];exact (hf c).2)))) hXa
 have:=List.Nodup.length_le_of_subset hn λy hy=>by
  obtain⟨q,_,rfl⟩:=Qbr.1 hy;exact (hf q).1
 simpa using this
theorem hc8{n N d:V3}(h:d7 n N=⟨0,0,0⟩):dot N N*dot n d=dot n N*dot N d:=by
 have e:dot N N*dot n d-dot n N*dot N d=dot (d7 n N) (d7 d N):=by simp only[dot,d7];grind
 rw[h] at e;have z:dot ⟨0,0,0⟩ (d7 d N)=0:=by simp[dot]
 rw[z] at e;exact Int.eq_of_sub_eq_zero e
theorem Ac9{n a c:V3}(h1:dot n a=0)(h2:dot n c=0):d7 n (d7 a c)=⟨0,0,0⟩:=by
 refine V3.ext' ?_ ?_ ?_
 ·have:(d7 n (d7 a c)).x=a.x*dot n c-c.x*dot n a:=by simp only[d7,dot];grind
  rw[this,h1,h2];simp
 ·have:(d7 n (d7 a c)).y=a.y*dot n c-c.y*dot n a:=by simp only[d7,dot];grind
  rw[this,h1,h2];simp
 ·have:(d7 n (d7 a c)).z=a.z*dot n c-c.z*dot n a:=by simp only[d7,dot];grind
  rw[this,h1,h2];simp
theorem W8(n a c:V3):dot n (p6 a c)=dot n a-dot n c:=by simp only[dot,p6];grind
theorem he3{l:List V3}(hl:l.all inV=true){n u w x:V3}(hu:u∈l)(hw:w∈l)(hx:x∈l)(h3:N3 u w x≠⟨0,0,0⟩)(hle:∀v∈l,dot n v<=dot n u)(e1:dot n w=dot n u)(e2:dot n x=dot n u)(hoff:∃v∈l,dot n v≠dot n u) :
  ∃p,Ub7 l p/\dot p.n u=p.b/\dot p.n w=p.b/\dot p.n x=p.b:=by
 have hi:=Qcb.1 hl;have hT:=(xa3 (Wa5 (hi u hu) (hi w hw) (hi x hx) h3)).2;obtain⟨s1,s2,s3⟩:=jd1 hT;have hT0:=hT;obtain⟨ok,⟨g,hg,g1,g2,g3'⟩,_⟩:=hT;generalize (I6 u w x).1=p at *
 have hN:dot (N3 u w x) (N3 u w x)>0:=ld7 h3;have hpar:d7 n (N3 u w x)=⟨0,0,0⟩:=by
  have a1:dot n (p6 w u)=0:=by rw[W8];omega
  have a2:dot n (p6 x u)=0:=by rw[W8];omega
  exact Ac9 a1 a2
 have hd:∀v,dot (N3 u w x) (N3 u w x)*(dot n v-dot n u)=dot n (N3 u w x)*(g*(dot p.n v-p.b)):=λv=>by
  rw[<- W8,hc8 hpar,<- s1];congr 1
  have:g*(dot p.n v-dot p.n u)=(g*p.n.x)*(v.x-u.x)+(g*p.n.y)*(v.y-u.y)+(g*p.n.z)*(v.z-u.z):=by simp only[dot];grind
  rw[this,g1,g2,g3'];simp only[N3,dot,p6,d7,sub]
 rcases Int.lt_trichotomy (dot n (N3 u w x)) 0 with h|h|h
 ·refine⟨ha0 p,yc8 hu hw hx hT0 λv hv=>?_,(bb2 p u).2 s1,(bb2 p w).2 s2,(bb2 p x).2 s3⟩
  rw[bc4];show -dot p.n v<=-p.b;have k1:=hd v;have k2:dot (N3 u w x) (N3 u w x)*(dot n v-dot n u)<=0:=Qkc (by omega) (by have:=hle v hv;omega)
  apply Qeb;intro hno
  have:=Qki h (Qkd hg (show dot p.n v-p.b<0 by omega))
  omega
 ·exfalso;obtain⟨v,hv,hne⟩:=hoff;have k1:=hd v;rw[h,Qip] at k1
  have:=(Qia.1 k1).resolve_left (by omega)
  omega
 ·refine⟨p,Wc3 hu hw hx hT0 λv hv=>?_,s1,s2,s3⟩
  have k1:=hd v;have k2:dot (N3 u w x) (N3 u w x)*(dot n v-dot n u)<=0:=Qkc (by omega) (by have:=hle v hv;omega)
  apply Qeb;intro hno
  have:=Qio h (Qio hg (show 0<dot p.n v-p.b by omega))
  omega
structure Sim(l:List V3)(T:V3->V3):Prop where
 li:l.all inV=true
 mi:(l.map T).all inV=true
 dn:∀n:V3,∃n':V3,∃k:Int,0<k/\∀u∈l,∀w∈l,dot n' (T u)-dot n' (T w)=k*(dot n u-dot n w)
 up:∀n':V3,∃n:V3,∃k:Int,0<k/\∀u∈l,∀w∈l,dot n u-dot n w=k*(dot n' (T u)-dot n' (T w))
 n3:∀u∈l,∀w∈l,∀x∈l,N3 u w x≠⟨0,0,0⟩↔N3 (T u) (T w) (T x)≠⟨0,0,0⟩
theorem Fe9{k x:Int}(hk:0<k)(h:x<=0):k*x<=0:=Qkc (by omega) h
theorem Ga6{k x:Int}(hk:0<k)(h:k*x=0):x=0:=(Qia.1 h).resolve_left (by omega)
def Car(l:List V3)(T:V3->V3)(p q:Pln):Prop:=∃u w x,u∈l/\w∈l/\x∈l/\N3 u w x≠⟨0,0,0⟩/\(dot p.n u=p.b/\dot p.n w=p.b/\dot p.n x=p.b)/\dot q.n (T u)=q.b/\dot q.n (T w)=q.b/\dot q.n (T x)=q.b/\(∀v∈l,dot p.n v=p.b↔dot q.n (T v)=q.b)
section
variable{l:List V3}{T:V3->V3}(h:Sim l T)(hs:Sol l)(hs':Sol (l.map T))
include h hs hs'
theorem Sim.mem{v:V3}(hv:v∈l):T v∈l.map T:=Qbr.2 ⟨v,hv,rfl⟩
theorem Sim.down{q:Pln}(hq:q∈F0 (l.map T)):∃p∈F0 l,Car l T p q:=by
 have hf:=(E9 h.mi q).1 hq;obtain⟨u',w',x',hu',hw',hx',h3,t1,t2,t3⟩:=hf.on;obtain⟨u,hu,rfl⟩:=Qbr.1 hu';obtain⟨w,hw,rfl⟩:=Qbr.1 hw';obtain⟨x,hx,rfl⟩:=Qbr.1 hx';obtain⟨n,k,hk,hn⟩:=h.up q.n;have h3':=(h.n3 u hu w hw x hx).2 h3;have hle:∀v∈l,dot n v<=dot n u:=λv hv=>by
  have e:=hn v hv u hu
  have:=Fe9 hk (show dot q.n (T v)-dot q.n (T u)<=0 by have:=hf.hd _ (Sim.mem h hs hs' hv);omega)
  omega
 have e1:dot n w=dot n u:=by
  have e:=hn w hw u hu;rw[t2,t1,Qka,Qiae] at e;omega
 have e2:dot n x=dot n u:=by
  have e:=hn x hx u hu;rw[t3,t1,Qka,Qiae] at e;omega
 have hoff:∃v∈l,dot n v≠dot n u:=by
  obtain⟨v',hv',hne⟩:=hs'.off (yc5 hf.ok) q.b;obtain⟨v,hv,rfl⟩:=Qbr.1 hv';refine⟨v,hv,λe=>hne ?_⟩
  have e':=hn v hv u hu
  have:=Ga6 hk (show k*(dot q.n (T v)-dot q.n (T u))=0 by omega)
  omega
 obtain⟨p,hp,p1,p2,p3⟩:=he3 h.li hu hw hx h3' hle e1 e2 hoff;refine⟨p,(E9 h.li p).2 hp,u,w,x,hu,hw,hx,h3',⟨p1,p2,p3⟩,t1,t2,t3,λv hv=>?_⟩
 -- on p if and only if n is highest there
 have hT:=(xa3 (Wa5 (Qcb.1 h.li u hu) (Qcb.1 h.li w hw) (Qcb.1 h.li x hx) h3')).2;have hN:dot (N3 u w x) (N3 u w x)>0:=ld7 h3';have c1:d7 n (N3 u w x)=⟨0,0,0⟩:=Ac9 (by rw[W8];omega) (by rw[W8];omega)
 have c2:d7 p.n (N3 u w x)=⟨0,0,0⟩:=Ac9 (by rw[W8];omega) (by rw[W8];omega)
 have d1:=hc8 (d:=p6 v u) c1;have d2:=hc8 (d:=p6 v u) c2;rw[W8] at d1 d2;have n1:dot n (N3 u w x)≠0:=λe=>by
  obtain⟨v0,hv0,hne⟩:=hoff;have d0:=hc8 (d:=p6 v0 u) c1;rw[W8,e,Qip] at d0
  have:=Ga6 hN d0
  omega
 have n2:dot p.n (N3 u w x)≠0:=λe=>by
  obtain⟨v0,hv0,hne⟩:=hs.off (yc5 hp.ok) p.b;have d0:=hc8 (d:=p6 v0 u) c2;rw[W8,e,Qip] at d0
  have:=Ga6 hN d0
  omega
 have e':=hn v hv u hu;constructor
 ·intro hv';rw[show dot p.n v-dot p.n u=0 by omega,Qiae] at d2
  have z:=(Qia.1 d2.symm).resolve_left n2;rw[z,Qiae] at d1
  have:=Ga6 hN d1
  have:=Ga6 hk (show k*(dot q.n (T v)-dot q.n (T u))=0 by omega)
  omega
 ·intro hv';rw[hv',t1,Qka,Qiae] at e';rw[e',Qiae] at d1;have z:=(Qia.1 d1.symm).resolve_left n1;rw[z,Qiae] at d2
  have:=Ga6 hN d2
  omega
theorem Sim.img{p p':Pln}(hp:p∈F0 l)(ok:okp p'=true)(hd:∀v∈l,dot p'.n (T v)<=p'.b)(on:∀v∈l,dot p.n v=p.b->dot p'.n (T v)=p'.b):p'∈F0 (l.map T):=by
 have hf:=(E9 h.li p).1 hp;obtain⟨u,w,x,hu,hw,hx,h3,t1,t2,t3⟩:=hf.on;refine (E9 h.mi p').2 ⟨⟨λv' hv'=>?_,T u,T w,T x,Sim.mem h hs hs' hu,Sim.mem h hs hs' hw,Sim.mem h hs hs' hx,(h.n3 u hu w hw x hx).1 h3,on u hu t1,on w hw t2,on x hx t3⟩,ok⟩
 obtain⟨v,hv,rfl⟩:=Qbr.1 hv';exact hd v hv
theorem Sim.upf{p:Pln}(hp:p∈F0 l):∃q∈F0 (l.map T),Car l T p q:=by
 have hf:=(E9 h.li p).1 hp;obtain⟨u,w,x,hu,hw,hx,h3,t1,t2,t3⟩:=hf.on;obtain⟨n,k,hk,hn⟩:=h.dn p.n;have h3':=(h.n3 u hu w hw x hx).1 h3;obtain⟨q,hq,q1,q2,q3⟩:=he3 (n:=n) h.mi (Sim.mem h hs hs' hu) (Sim.mem h hs hs' hw) (Sim.mem h hs hs' hx) h3' (λv' hv'=>by
  obtain⟨v,hv,rfl⟩:=Qbr.1 hv';have e:=hn v hv u hu
  have:=Fe9 hk (show dot p.n v-dot p.n u<=0 by have:=hf.hd v hv;omega)
  omega) (by
  have e:=hn w hw u hu;rw[t2,t1,Qka,Qiae] at e
  omega) (by
  have e:=hn x hx u hu;rw[t3,t1,Qka,Qiae] at e
  omega) (by
  obtain⟨v,hv,hne⟩:=hs.off (yc5 hf.ok) p.b;refine⟨T v,Sim.mem h hs hs' hv,λe=>hne ?_⟩
  have e':=hn v hv u hu
  have:=Ga6 hk (show k*(dot p.n v-dot p.n u)=0 by omega)
  omega)
 obtain⟨p2,hp2,u',w',x',hu',hw',hx',h3'',on2,r1,r2,r3,hall⟩:=Sim.down h hs hs' ((E9 h.mi q).2 hq);have e:p2=p:=ld8 h.li hs ((E9 h.li p2).1 hp2) hf hu hw hx h3 ((hall u hu).2 q1) ((hall w hw).2 q2) ((hall x hx).2 q3) t1 t2 t3;subst e;exact⟨q,(E9 h.mi q).2 hq,u',w',x',hu',hw',hx',h3'',on2,r1,r2,r3,hall⟩
theorem Sim.len:(F0 (l.map T)).length=(F0 l).length:=by
 refine Nat.le_antisymm ?_ ?_
 ·refine Pd3 (R:=λq p=>Car l T p q) (td8 (qc5 _)) (λq hq=>Sim.down h hs hs' hq) λq hq r hr p h1 h2=>?_
  obtain⟨u,w,x,hu,hw,hx,h3,⟨p1,p2,p3⟩,q1,q2,q3,_⟩:=h1;obtain⟨_,_,_,_,_,_,_,_,_,_,_,hall⟩:=h2;exact ld8 h.mi hs' ((E9 h.mi q).1 hq) ((E9 h.mi r).1 hr) (Sim.mem h hs hs' hu) (Sim.mem h hs hs' hw) (Sim.mem h hs hs' hx) ((h.n3 u hu w hw x hx).1 h3) q1 q2 q3 ((hall u hu).1 p1) ((hall w hw).1 p2) ((hall x hx).1 p3)
 ·refine Pd3 (R:=λp q=>Car l T p q) (td8 (qc5 _)) (λp hp=>Sim.upf h hs hs' hp) λp hp r hr q h1 h2=>?_
  obtain⟨u,w,x,hu,hw,hx,h3,⟨p1,p2,p3⟩,q1,q2,q3,_⟩:=h1;obtain⟨_,_,_,_,_,_,_,_,_,_,_,hall⟩:=h2;exact ld8 h.li hs ((E9 h.li p).1 hp) ((E9 h.li r).1 hr) hu hw hx h3 p1 p2 p3 ((hall u hu).2 q1) ((hall w hw).2 q2) ((hall x hx).2 q3)
end
theorem he4{l:List V3}(hl:l.all inV=true)(h4:Sol l){v:V3}(hv:v∈l):v∈Ea8 (F0 l) l↔∃n,∀w∈l,w≠v->dot n w<dot n v:=by
 constructor
 ·intro h;obtain⟨p,q,s,hp,hq,hs,hm,e1,e2,e3⟩:=((Ac8 hl v).1 h).2;refine⟨⟨p.n.x+q.n.x+s.n.x,p.n.y+q.n.y+s.n.y,p.n.z+q.n.z+s.n.z⟩,λw hw hne=>?_⟩
  have hd:∀x:V3,dot ⟨p.n.x+q.n.x+s.n.x,p.n.y+q.n.y+s.n.y,p.n.z+q.n.z+s.n.z⟩ x=dot p.n x+dot q.n x+dot s.n x:=λx=>by simp only[dot];grind
  rw[hd,hd];have g1:=((E9 hl p).1 hp).hd w hw;have g2:=((E9 hl q).1 hq).hd w hw;have g3:=((E9 hl s).1 hs).hd w hw;apply Qeb;intro hno;have z:=bc5 hm (d:=p6 w v) (by rw[W8];omega) (by rw[W8];omega) (by rw[W8];omega)
  simp only[p6,V3.mk.injEq] at z;exact hne (V3.ext' (by omega) (by omega) (by omega))
 ·rintro⟨n,hn⟩;apply Qeb;intro hno
  have:=ob8 hl h4 (n:=n) (b:=dot n v-1) (λw hw=>by
   have:=hn w (db1 hl h4 hw) λe=>hno (e ▸ hw)
   omega) v hv
  omega
section
variable{l:List V3}{T:V3->V3}(h:Sim l T)
include h
theorem Sim.inj{u w:V3}(hu:u∈l)(hw:w∈l)(e:T u=T w):u=w:=by
 have key:∀n:V3,dot n u=dot n w:=λn=>by
  obtain⟨n',k,hk,hn⟩:=h.dn n;have e':=hn u hu w hw;rw[e,Qka] at e'
  have:=Ga6 hk e'.symm
  omega
 have k1:=key ⟨1,0,0⟩;have k2:=key ⟨0,1,0⟩;have k3:=key ⟨0,0,1⟩;simp only[dot] at k1 k2 k3;exact V3.ext' (by omega) (by omega) (by omega)
theorem Ge0{u w x v n:V3}(h3:N3 u w x≠⟨0,0,0⟩)(e1:dot n w=dot n u)(e2:dot n x=dot n u)(hv:dot n v≠dot n u):dot (N3 u w x) (p6 v u)≠0:=λe=>by
 have hN:dot (N3 u w x) (N3 u w x)>0:=ld7 h3;have c1:d7 n (N3 u w x)=⟨0,0,0⟩:=Ac9 (by rw[W8];omega) (by rw[W8];omega)
 have d1:=hc8 (d:=p6 v u) c1;rw[e,Qiae,W8] at d1
 have:=Ga6 hN d1
 omega
omit h in
theorem he5(u w x:V3):dot (N3 u w x) w=dot (N3 u w x) u/\dot (N3 u w x) x=dot (N3 u w x) u:=by
 constructor<;>simp only[N3,dot,d7,p6]<;>grind
theorem Sim.sol:Sol l↔Sol (l.map T):=by
 constructor
 ·rintro⟨a,c,k,v,ha,hc,hk,hv,hne⟩;have h3:N3 a c k≠⟨0,0,0⟩:=λe=>hne (by rw[e];simp[dot])
  obtain⟨n',m,hm,hn⟩:=h.dn (N3 a c k);obtain⟨p1,p2⟩:=he5 a c k;refine⟨T a,T c,T k,T v,Qbr.2 ⟨a,ha,rfl⟩,Qbr.2 ⟨c,hc,rfl⟩,Qbr.2 ⟨k,hk,rfl⟩,Qbr.2 ⟨v,hv,rfl⟩,Ge0 h (n:=n') ((h.n3 a ha c hc k hk).1 h3) ?_ ?_ ?_⟩
  ·have e:=hn c hc a ha;rw[p1,Qka,Qiae] at e;omega
  ·have e:=hn k hk a ha;rw[p2,Qka,Qiae] at e;omega
  ·intro e';have e:=hn v hv a ha
   have:=Ga6 hm (show m*(dot (N3 a c k) v-dot (N3 a c k) a)=0 by omega)
   rw[W8] at hne;omega
 ·rintro⟨a',c',k',v',ha',hc',hk',hv',hne⟩;obtain⟨a,ha,rfl⟩:=Qbr.1 ha';obtain⟨c,hc,rfl⟩:=Qbr.1 hc';obtain⟨k,hk,rfl⟩:=Qbr.1 hk';obtain⟨v,hv,rfl⟩:=Qbr.1 hv';have h3:N3 (T a) (T c) (T k)≠⟨0,0,0⟩:=λe=>hne (by rw[e];simp[dot])
  obtain⟨n,m,hm,hn⟩:=h.up (N3 (T a) (T c) (T k));obtain⟨p1,p2⟩:=he5 (T a) (T c) (T k);refine⟨a,c,k,v,ha,hc,hk,hv,Ge0 h (n:=n) ((h.n3 a ha c hc k hk).2 h3) ?_ ?_ ?_⟩
  ·have e:=hn c hc a ha;rw[p1,Qka,Qiae] at e;omega
  ·have e:=hn k hk a ha;rw[p2,Qka,Qiae] at e;omega
  ·intro e';have e:=hn v hv a ha
   have:=Ga6 hm (show m*(dot (N3 (T a) (T c) (T k)) (T v)-dot (N3 (T a) (T c) (T k)) (T a))=0 by omega)
   rw[W8] at hne;omega
theorem Sim.ext(hs:Sol l){v:V3}(hv:v∈l):v∈Ea8 (F0 l) l↔T v∈Ea8 (F0 (l.map T)) (l.map T):=by
 rw[he4 h.li hs hv,he4 h.mi ((Sim.sol h).1 hs) (Qbr.2 ⟨v,hv,rfl⟩)];constructor
 ·rintro⟨n,hn⟩;obtain⟨n',k,hk,hd⟩:=h.dn n;refine⟨n',λw' hw' hne=>?_⟩
  obtain⟨w,hw,rfl⟩:=Qbr.1 hw';have e:=hd w hw v hv
  have:=Qkd hk (show dot n w-dot n v<0 by have:=hn w hw λe=>hne (by rw[e]);omega)
  omega
 ·rintro⟨n',hn⟩;obtain⟨n,k,hk,hd⟩:=h.up n';refine⟨n,λw hw hne=>?_⟩
  have e:=hd w hw v hv
  have:=Qkd hk (show dot n' (T w)-dot n' (T v)<0 by have:=hn (T w) (Qbr.2 ⟨w,hw,rfl⟩) λe=>hne (Sim.inj h hw hv e);omega)
  omega
end
structure Mat(l:List V3)(T:V3->V3)(r0 r1 r2:V3)(D:Int):Prop where
 d:0<D
 det:0<dot r0 (d7 r1 r2)
 t:∀u∈l,∀w∈l,D*((T u).x-(T w).x)=dot r0 (p6 u w)/\D*((T u).y-(T w).y)=dot r1 (p6 u w)/\D*((T u).z-(T w).z)=dot r2 (p6 u w)
theorem ld9{l:List V3}(h48:l.length<=48)(hl:l.all inV=true):(Sol l->X3 l=0)/\(¬ Sol l->X3 l=11):=by
 refine⟨hc7 h48 hl,λhn=>?_⟩
 by_cases h0:X3 l=0
 ·exact (hn (U0 h0).2.2).elim
 ·unfold X3 at h0 ⊢;rw[if_neg (by omega),if_neg (by rw[<- List.not_all_eq_any_not,hl];simp)] at h0 ⊢
  split
  ·rfl
  ·rename_i h;rw[if_neg h] at h0;exact (h0 rfl).elim
section
variable{l:List V3}{T:V3->V3}(h:Sim l T)(h48:l.length<=48)
include h h48
theorem Sim.chk:X3 (l.map T)=X3 l:=by
 have h1:=ld9 h48 h.li;have h2:=ld9 (l:=l.map T) (by rw[List.length_map];exact h48) h.mi
 by_cases hs:Sol l
 ·rw[h1.1 hs,h2.1 ((Sim.sol h).1 hs)]
 ·rw[h1.2 hs,h2.2 λk=>hs ((Sim.sol h).2 k)]
omit h h48 in
theorem Ga7(l:List V3):(E0 l).1.Nodup/\((E0 l).1.Pairwise LtV)/\∀v∈(E0 l).1,X3 l=0/\v∈l:=by
 unfold E0;by_cases h0:X3 l=0
 ·rw[if_pos h0];obtain⟨_,hl,hs⟩:=U0 h0;exact⟨(Jc3 l).filter _,(jd4 l).filter _,λv hv=>⟨h0,db1 hl hs hv⟩⟩
 ·rw[if_neg h0];exact⟨Qkl,.nil,λv hv=>by simp at hv⟩
theorem Sim.plane{p p':Pln}(hp:p∈(Ea9 l).1)(ok:okp p'=true)(hd:∀v∈l,dot p'.n (T v)<=p'.b)(on:∀v∈l,dot p.n v=p.b->dot p'.n (T v)=p'.b):p'∈(Ea9 (l.map T)).1:=by
 have hc:=Sim.chk h h48;unfold Ea9 at hp ⊢;rw[hc];by_cases h0:X3 l=0
 ·rw[if_pos h0] at hp ⊢;have hs:=(U0 h0).2.2;exact Sim.img h hs ((Sim.sol h).1 hs) hp ok hd on
 ·rw[if_neg h0] at hp;cases hp
end
def Oct(r b h:Int)(v:V3):Prop:=(((v.x=r\/v.x=-r)/\(v.y=b\/v.y=-b))\/((v.x=b\/v.x=-b)/\(v.y=r\/v.y=-r)))/\(v.z=0\/v.z=h)
theorem sqn(a:Int):0<=a*a:=by
 rcases Qkg 0 a with h|h
 ·exact Qic h h
 ·exact Int.mul_nonneg_of_nonpos_of_nonpos h h
theorem Ge1{r b X Y B:Int}(r0:0<r)(b0:0<=b)(hb:2*(r*r)<=(r+b)*(r+b))(hX:0<=X)(hY:0<=Y)(hXY:Y<=X)(h:r*X+b*Y<=B):0<=B/\r*r*(X*X+Y*Y)<=B*B:=by
 have p0:0<=r*X+b*Y:=Qke (Qic (Qib r0) hX) (Qic b0 hY);have k3:(r*X+b*Y)*(r*X+b*Y)<=B*B:=Int.mul_le_mul h h p0 (Qkh p0 h);have k1:0<=(2*(r*b)+b*b-r*r)*(Y*Y):=Qic (by grind) (Qic hY hY)
 have k2:0<=(2*(r*b))*(Y*(X-Y)):=Qic (Qic (by omega) (Qic (Qib r0) b0)) (Qic hY (by omega))
 exact⟨Qkh p0 h,by grind⟩
theorem Ge2{r b h:Int}(r0:0<r)(b0:0<=b)(hb:2*(r*r)<=(r+b)*(r+b)){p:Pln}(hd:∀v,Oct r b h v->dot p.n v<=p.b):0<=p.b/\r*r*(p.n.x*p.n.x+p.n.y*p.n.y)<=p.b*p.b:=by
 have g:∀x y:Int,(((x=r\/x=-r)/\(y=b\/y=-b))\/((x=b\/x=-b)/\(y=r\/y=-r)))->p.n.x*x+p.n.y*y<=p.b:=λx y hh=>by
  have:=hd ⟨x,y,0⟩ ⟨hh,.inl rfl⟩
  simpa [dot] using this
 have a1:=g r b (by simp)
 have a2:=g r (-b) (by simp)
 have a3:=g (-r) b (by simp)
 have a4:=g (-r) (-b) (by simp)
 have c1:=g b r (by simp)
 have c2:=g b (-r) (by simp)
 have c3:=g (-b) r (by simp)
 have c4:=g (-b) (-r) (by simp)
 generalize p.n.x=n at *
 generalize p.n.y=m at *
 generalize p.b=B at *
 have key:∀X Y:Int,(X=n\/X=-n)->(Y=m\/Y=-m)->r*X+b*Y<=B/\r*Y+b*X<=B:=λX Y hX hY=>by
  rcases hX with rfl|rfl<;>rcases hY with rfl|rfl<;>constructor<;>grind
 obtain⟨X,hX,X0⟩:∃X,(X=n\/X=-n)/\0<=X:=(Qkg 0 n).elim (λh=>⟨n,.inl rfl,h⟩) λh=>⟨-n,.inr rfl,by omega⟩
 obtain⟨Y,hY,Y0⟩:∃Y,(Y=m\/Y=-m)/\0<=Y:=(Qkg 0 m).elim (λh=>⟨m,.inl rfl,h⟩) λh=>⟨-m,.inr rfl,by omega⟩
 obtain⟨k1,k2⟩:=key X Y hX hY;have e1:X*X=n*n:=by rcases hX with rfl | rfl<;>grind
 have e2:Y*Y=m*m:=by rcases hY with rfl | rfl<;>grind
 rw[<- e1,<- e2]
 rcases Qkg Y X with h|h
 ·exact Ge1 r0 b0 hb X0 Y0 h k1
 ·have:=Ge1 r0 b0 hb Y0 X0 h k2
  rw[Int.add_comm];exact this
theorem Pd4{n u w x:V3}{B:Int}(h3:N3 u w x≠⟨0,0,0⟩)(t1:dot n u=B)(t2:dot n w=B)(t3:dot n x=B)(z1:w.z=u.z)(z2:x.z=u.z):n.x=0/\n.y=0:=by
 have hz:(w.x-u.x)*(x.y-u.y)-(w.y-u.y)*(x.x-u.x)≠0:=λe=>h3 (by simp[N3,d7,p6,z1,z2,e])
 have q1:n.x*(w.x-u.x)+n.y*(w.y-u.y)=0:=by simp only[dot,z1] at t1 t2;grind
 have q2:n.x*(x.x-u.x)+n.y*(x.y-u.y)=0:=by simp only[dot,z2] at t1 t3;grind
 have e1:n.x*((w.x-u.x)*(x.y-u.y)-(w.y-u.y)*(x.x-u.x))=0:=by
  have:n.x*((w.x-u.x)*(x.y-u.y)-(w.y-u.y)*(x.x-u.x))=(n.x*(w.x-u.x)+n.y*(w.y-u.y))*(x.y-u.y)-(n.x*(x.x-u.x)+n.y*(x.y-u.y))*(w.y-u.y):=by grind
  rw[this,q1,q2];simp
 have e2:n.y*((w.x-u.x)*(x.y-u.y)-(w.y-u.y)*(x.x-u.x))=0:=by
  have:n.y*((w.x-u.x)*(x.y-u.y)-(w.y-u.y)*(x.x-u.x))=(n.x*(x.x-u.x)+n.y*(x.y-u.y))*(w.x-u.x)-(n.x*(w.x-u.x)+n.y*(w.y-u.y))*(x.x-u.x):=by grind
  rw[this,q1,q2];simp
 exact⟨(Qia.1 e1).resolve_right hz,(Qia.1 e2).resolve_right hz⟩
theorem sf4{n:V3}(hx:n.x=0)(hy:n.y=0)(h:g3 n=1):n.z=1\/n.z=-1:=by
 simp[g3,hx,hy] at h;omega
theorem Te3{r b h:Int}(h0:0<h){n u w x:V3}{B:Int}(ok:g3 n=1)(hd:∀v,Oct r b h v->dot n v<=B)(hu:Oct r b h u)(hw:Oct r b h w)(hx:Oct r b h x)
  (h3:N3 u w x≠⟨0,0,0⟩) (t1:dot n u=B) (t2:dot n w=B) (t3:dot n x=B) (hz:n.z≠0):n.x=0/\n.y=0/\((n.z=1/\B=h)\/(n.z=-1/\B=0)):=by
 rcases Int.lt_or_gt_of_ne hz with hz|hz
 ·have low : ∀ v, Oct r b h v → dot n v = B → v.z = 0 := fun v hv e => by
   rcases hv.2 with e0|e0
   ·exact e0
   ·have:=hd ⟨v.x,v.y,0⟩ ⟨hv.1,.inl rfl⟩
    simp only[dot,e0] at this e
    have:=Int.mul_neg_of_neg_of_pos hz h0
    omega
  have z1:=low u hu t1;have z2:=low w hw t2;have z3:=low x hx t3;obtain⟨a,c⟩:=Pd4 h3 t1 t2 t3 (by omega) (by omega)
  refine⟨a,c,.inr ⟨by have:=sf4 a c ok;omega,?_⟩⟩
  simpa [dot,a,c,z1] using t1.symm
 ·have up : ∀ v, Oct r b h v → dot n v = B → v.z = h := fun v hv e => by
   rcases hv.2 with e0|e0
   ·have:=hd ⟨v.x,v.y,h⟩ ⟨hv.1,.inr rfl⟩
    simp only[dot,e0] at this e
    have:=Qio hz h0
    omega
   ·exact e0
  have z1:=up u hu t1;have z2:=up w hw t2;have z3:=up x hx t3;obtain⟨a,c⟩:=Pd4 h3 t1 t2 t3 (by omega) (by omega)
  have e1:n.z=1:=by have:=sf4 a c ok;omega
  refine⟨a,c,.inl ⟨e1,?_⟩⟩;simpa [dot,a,c,z1,e1] using t1.symm
theorem sf5{a b:Int}(hb:0<=b)(h:a*a<=b*b):a<=b:=by
 rcases Int.lt_or_le b a with hh|hh
 ·have:=Int.mul_lt_mul' (Qib hh) hh hb (by omega)
  omega
 ·exact hh
theorem Ge3{r B n m X Y:Int}(hB:0<=B)(h:r*r*(n*n+m*m)<=B*B)(hv:X*X+Y*Y<=r*r):n*X+m*Y<=B:=by
 refine sf5 hB (Qkh ?_ h);have k1:0<=(n*Y-m*X)*(n*Y-m*X):=(sqn (n*Y-m*X));have k2:0<=(r*r-(X*X+Y*Y))*(n*n+m*m):=Qic (by omega) (Qke (sqn n) (sqn m))
 grind
theorem Te4{r X Y M:Int}(hM:M*M<=r*r*(X*X+Y*Y))(h:X*X+Y*Y<=M):X*X+Y*Y<=r*r:=by
 have s0:0<=X*X+Y*Y:=Qke (sqn X) (sqn Y);generalize X*X+Y*Y=S at *
 rcases Int.lt_or_le (r*r) S with hh|hh
 ·have k1:=Int.mul_le_mul h h s0 (Qkh s0 h);have k2:r*r*S<S*S:=Int.mul_lt_mul_of_pos_right hh (by have:=sqn r;omega)
  omega
 ·exact hh
theorem vd1{r b h:Int}(r0:0<r)(b0:0<=b)(hb:2*(r*r)<=(r+b)*(r+b))(h0:0<h){l:List V3}(hl:∀v,v∈l↔Oct r b h v){p:Pln}(hp:Ub7 l p) :
  (p.n.z=0/\0<=p.b/\r*r*(p.n.x*p.n.x+p.n.y*p.n.y)<=p.b*p.b)\/(p.n.x=0/\p.n.y=0/\((p.n.z=1/\p.b=h)\/(p.n.z=-1/\p.b=0))):=by
 have hd:∀v,Oct r b h v->dot p.n v<=p.b:=λv hv=>hp.hd v ((hl v).2 hv)
 by_cases hz:p.n.z=0
 ·exact .inl ⟨hz,Ge2 r0 b0 hb hd⟩
 ·obtain⟨u,w,x,hu,hw,hx,h3,t1,t2,t3⟩:=hp.on;exact .inr (Te3 h0 (Bd2 hp.ok) hd ((hl u).1 hu) ((hl w).1 hw) ((hl x).1 hx) h3 t1 t2 t3 hz)
theorem if9{r b h:Int}(r0:0<r)(b0:0<=b)(hb:2*(r*r)<=(r+b)*(r+b))(h0:0<h){l:List V3}(hl:∀v,v∈l↔Oct r b h v){v:V3}(h1:v.x*v.x+v.y*v.y<=r*r)(z0:0<=v.z)(z1:v.z<=h)
  {p:Pln} (hp:Ub7 l p):dot p.n v<=p.b:=by
 rcases vd1 r0 b0 hb h0 hl hp with⟨hz,hB,hs⟩|⟨e1,e2,⟨e3,e4⟩|⟨e3,e4⟩⟩
 ·have:=Ge3 hB hs h1
  simpa [dot,hz] using this
 ·simp[dot,e1,e2,e3,e4,z1]
 ·simp[dot,e1,e2,e3,e4,z0]
theorem rc1{n x:Int}(h1:-n<=x)(h2:x<=n):smb n x=true:=by simp[smb];omega
theorem Te5{r b h:Int}(r1:r<=1000)(b0:0<b)(hr:b<=r)(h0:0<h)(h1:h<=1000){l:List V3}(hl:∀v,v∈l↔Oct r b h v) :
  ∀p∈([⟨⟨0,0,1⟩,h⟩,⟨⟨0,0,-1⟩,0⟩,⟨⟨1,0,0⟩,r⟩,⟨⟨-1,0,0⟩,r⟩,⟨⟨0,1,0⟩,r⟩,⟨⟨0,-1,0⟩,r⟩]:PLq),Ub7 l p:=by
 have mem:∀x y z:Int,(((x=r\/x=-r)/\(y=b\/y=-b))\/((x=b\/x=-b)/\(y=r\/y=-r)))->(z=0\/z=h)->(⟨x,y,z⟩:V3)∈l:=λx y z h1 h2=>(hl _).2 ⟨h1,h2⟩
 have hbh:b*h≠0:=Qkb (by omega) (by omega)
 have hrb:r*b≠0:=Qkb (by omega) (by omega)
 have ok:∀(x y z B:Int),-1<=x/\x<=1->-1<=y/\y<=1->-1<=z/\z<=1->g3 ⟨x,y,z⟩=1->0<=B->B<=1000->okp ⟨⟨x,y,z⟩,B⟩=true:=λx y z B hx hy hz hg h2 h3=>by
  unfold okp;simp only[List.all_cons,List.all_nil,Qii,Qas,beq_iff_eq];exact⟨⟨rc1 (by omega) (by omega),rc1 (by omega) (by omega),rc1 (by omega) (by omega)⟩,hg,rc1 (by omega) (by omega)⟩
 have hd:∀{p:Pln},(∀v,Oct r b h v->dot p.n v<=p.b)->∀v∈l,dot p.n v<=p.b:=λhh v hv=>hh v ((hl v).1 hv)
 intro p hp;simp only[Qbi,Qis,or_false] at hp
 rcases hp with rfl|rfl|rfl|rfl|rfl|rfl
 ·refine⟨⟨hd λv hv=>?_,⟨r,b,h⟩,⟨r,-b,h⟩,⟨-r,b,h⟩,mem _ _ _ (by simp) (by simp),mem _ _ _ (by simp) (by simp),mem _ _ _ (by simp) (by simp),?_,by simp[dot],by simp[dot],by simp[dot]⟩,ok _ _ _ _ (by omega) (by omega) (by omega) (by decide) (by omega) (by omega)⟩
  ·have:=hv.2;simp[dot];omega
  ·simp only[N3,d7,p6,ne_eq,V3.mk.injEq];intro e;apply hrb;grind
 ·refine⟨⟨hd λv hv=>?_,⟨r,b,0⟩,⟨r,-b,0⟩,⟨-r,b,0⟩,mem _ _ _ (by simp) (by simp),mem _ _ _ (by simp) (by simp),mem _ _ _ (by simp) (by simp),?_,by simp[dot],by simp[dot],by simp[dot]⟩,ok _ _ _ _ (by omega) (by omega) (by omega) (by decide) (by omega) (by omega)⟩
  ·have:=hv.2;simp[dot];omega
  ·simp only[N3,d7,p6,ne_eq,V3.mk.injEq];intro e;apply hrb;grind
 ·refine⟨⟨hd λv hv=>?_,⟨r,b,0⟩,⟨r,-b,0⟩,⟨r,b,h⟩,mem _ _ _ (by simp) (by simp),mem _ _ _ (by simp) (by simp),mem _ _ _ (by simp) (by simp),?_,by simp[dot],by simp[dot],by simp[dot]⟩,ok _ _ _ _ (by omega) (by omega) (by omega) (by decide) (by omega) (by omega)⟩
  ·have:=hv.1;simp[dot];omega
  ·simp only[N3,d7,p6,ne_eq,V3.mk.injEq];intro e;apply hbh;grind
 ·refine⟨⟨hd λv hv=>?_,⟨-r,b,0⟩,⟨-r,-b,0⟩,⟨-r,b,h⟩,mem _ _ _ (by simp) (by simp),mem _ _ _ (by simp) (by simp),mem _ _ _ (by simp) (by simp),?_,by simp[dot],by simp[dot],by simp[dot]⟩,ok _ _ _ _ (by omega) (by omega) (by omega) (by decide) (by omega) (by omega)⟩
  ·have:=hv.1;simp[dot];omega
  ·simp only[N3,d7,p6,ne_eq,V3.mk.injEq];intro e;apply hbh;grind
 ·refine⟨⟨hd λv hv=>?_,⟨b,r,0⟩,⟨-b,r,0⟩,⟨b,r,h⟩,mem _ _ _ (by simp) (by simp),mem _ _ _ (by simp) (by simp),mem _ _ _ (by simp) (by simp),?_,by simp[dot],by simp[dot],by simp[dot]⟩,ok _ _ _ _ (by omega) (by omega) (by omega) (by decide) (by omega) (by omega)⟩
  ·have:=hv.1;simp[dot];omega
  ·simp only[N3,d7,p6,ne_eq,V3.mk.injEq];intro e;apply hbh;grind
 ·refine⟨⟨hd λv hv=>?_,⟨b,-r,0⟩,⟨-b,-r,0⟩,⟨b,-r,h⟩,mem _ _ _ (by simp) (by simp),mem _ _ _ (by simp) (by simp),mem _ _ _ (by simp) (by simp),?_,by simp[dot],by simp[dot],by simp[dot]⟩,ok _ _ _ _ (by omega) (by omega) (by omega) (by decide) (by omega) (by omega)⟩
  ·have:=hv.1;simp[dot];omega
  ·simp only[N3,d7,p6,ne_eq,V3.mk.injEq];intro e;apply hbh;grind
theorem qe6{r h:Int}(r0:0<=r){l:List V3}(hl:∀v∈l,v.x*v.x+v.y*v.y<=r*r/\v.z<=h){x:V3}(hx:∀n B,(∀v∈l,dot n v<=B)->dot n x<=B):x.x*x.x+x.y*x.y<=r*r/\x.z<=h:=by
 constructor
 ·have sq : ∀ v ∈ l, (x.x * v.x + x.y * v.y) * (x.x * v.x + x.y * v.y) ≤ r * r * (x.x * x.x + x.y * x.y) := fun v hv => by
   have k1:=sqn (x.x*v.y-x.y*v.x);have k2:0<=(r*r-(v.x*v.x+v.y*v.y))*(x.x*x.x+x.y*x.y):=Qic (by have:=(hl v hv).1;omega) (Qke (sqn _) (sqn _))
   grind
  obtain⟨M,hM,hM2⟩:∃M,(∀v∈l,x.x*v.x+x.y*v.y<=M)/\(M*M<=r*r*(x.x*x.x+x.y*x.y)):=by
   clear hx hl
   induction l with
   |nil=>exact⟨0,⟨(λv hv=>absurd hv (Qis)),by have:=Qic (sqn r) (Qke (sqn x.x) (sqn x.y));simpa using this⟩⟩
   |cons v l ih =>
    obtain⟨M,h1,h2⟩:=ih λw hw=>sq w (Qck _ hw)
    rcases Qkg M (x.x*v.x+x.y*v.y) with h|h
    ·exact⟨x.x*v.x+x.y*v.y,λw hw=>(Qbi.1 hw).elim (λe=>e ▸ Qkf _) λhw=>Qkh (h1 w hw) h,sq v (Qch ..)⟩
    ·exact⟨M,λw hw=>(Qbi.1 hw).elim (λe=>e ▸ h) (h1 w),h2⟩
  have k:=hx ⟨x.x,x.y,0⟩ M λv hv=>by simpa [dot] using hM v hv
  exact Te4 hM2 (by simpa [dot] using k)
 ·have k:=hx ⟨0,0,1⟩ h λv hv=>by simpa [dot] using (hl v hv).2
  simpa [dot] using k
theorem Ge4{E l:List V3}(imp:∀n B,(∀v∈E,dot n v<=B)->∀x∈l,dot n x<=B)(sub:∀v∈E,v∈l){h:Int}(h0:0<h)(hz:∀w∈l,w.z=0\/w.z=h){v:V3}(hv:v∈l)
  (hm:∀w∈l,w.x*w.x+w.y*w.y<=v.x*v.x+v.y*v.y):v∈E:=by
 have lt:∀w∈l,(w.x≠v.x\/w.y≠v.y)->v.x*w.x+v.y*w.y<=v.x*v.x+v.y*v.y-1:=λw hw hne=>by
  have k:=hm w hw;have p:0<(w.x-v.x)*(w.x-v.x)+(w.y-v.y)*(w.y-v.y):=by
   have s1:=sqn (w.x-v.x);have s2:=sqn (w.y-v.y)
   rcases hne with hne|hne
   ·have:=Qkb (a:=w.x-v.x) (b:=w.x-v.x) (by omega) (by omega);omega
   ·have:=Qkb (a:=w.y-v.y) (b:=w.y-v.y) (by omega) (by omega);omega
  have:2*(v.x*w.x+v.y*w.y)<2*(v.x*v.x+v.y*v.y):=by grind
  omega
 obtain⟨s,hs1,hs⟩:∃s:Int,(s=1\/s=-1)/\∀w∈l,s*w.z<=s*v.z/\(w.z≠v.z->s*w.z<=s*v.z-1):=by
  rcases hz v hv with e|e
  ·exact⟨-1,.inr rfl,λw hw=>by have:=hz w hw;omega⟩
  ·exact⟨1,.inl rfl,λw hw=>by have:=hz w hw;omega⟩
 refine Qeb λhnE=>?_
 have key:=imp ⟨(h+1)*v.x,(h+1)*v.y,s⟩ ((h+1)*(v.x*v.x+v.y*v.y)+s*v.z-1) (λw hw=>by
  have hwl:=sub w hw;have hwv:w≠v:=λe=>hnE (e ▸ hw)
  show (h+1)*v.x*w.x+(h+1)*v.y*w.y+s*w.z<=_;have e0:(h+1)*v.x*w.x+(h+1)*v.y*w.y=(h+1)*(v.x*w.x+v.y*w.y):=by grind
  rw[e0];by_cases hne:w.x≠v.x\/w.y≠v.y
  ·have k1:=lt w hwl hne;have k2:(h+1)*(v.x*w.x+v.y*w.y)<=(h+1)*(v.x*v.x+v.y*v.y-1):=Qir k1 (by omega)
   have k3:(h+1)*(v.x*v.x+v.y*v.y-1)=(h+1)*(v.x*v.x+v.y*v.y)-(h+1):=by grind
   have:=(hs w hwl).1
   omega
  ·have e1:w.x=v.x:=by omega
   have e2:w.y=v.y:=by omega
   have e3:w.z≠v.z:=λe=>hwv (by cases w;cases v;simp_all)
   have:=(hs w hwl).2 e3
   rw[e1,e2]
   omega) v hv
 have key:(h+1)*v.x*v.x+(h+1)*v.y*v.y+s*v.z<=(h+1)*(v.x*v.x+v.y*v.y)+s*v.z-1:=key;have e0:(h+1)*v.x*v.x+(h+1)*v.y*v.y=(h+1)*(v.x*v.x+v.y*v.y):=by grind
 omega
theorem wb5{α:Type}:∀{s l:List α},s.Nodup->(∀x∈s,x∈l)->s.length<=l.length
 |[],_,_,_=>Qbw _
 |x::s,l,hs,h=>by
  obtain⟨a,c,rfl⟩:=List.append_of_mem (h x (Qch ..));have hs:=Qkj.1 hs
  have:=wb5 (s:=s) (l:=a++c) hs.2 λy hy=>by
   have h1:=h y (Qck _ hy);have h2:y≠x:=λe=>hs.1 (e ▸ hy)
   simp only[Qiai,Qbi] at h1 ⊢
   rcases h1 with h1|h1|h1
   ·exact .inl h1
   ·exact absurd h1 h2
   ·exact .inr h1
  simp only[Qdc,List.length_cons] at this ⊢;omega
theorem sf6{r b h:Int}(r0:0<r)(b0:0<b)(h0:0<h){l:List V3}(hl:∀v∈([⟨r,b,0⟩,⟨r,-b,0⟩,⟨-r,b,0⟩,⟨-r,-b,0⟩,⟨r,b,h⟩,⟨r,-b,h⟩,⟨-r,b,h⟩,⟨-r,-b,h⟩]:List V3),v∈l):8<=l.length:=by
 refine wb5 (s:=[⟨r,b,0⟩,⟨r,-b,0⟩,⟨-r,b,0⟩,⟨-r,-b,0⟩,⟨r,b,h⟩,⟨r,-b,h⟩,⟨-r,b,h⟩,⟨-r,-b,h⟩]) ?_ hl;simp only[Qkj,Qbi,V3.mk.injEq,Qis,or_false,Qkl,and_true,not_false_eq_true,not_or];refine⟨?_,?_,?_,?_,?_,?_,?_⟩<;>omega
theorem jf0{r h:Int}(r0:0<r)(h0:0<h){l:List V3}(hl:∀v∈([⟨r,0,0⟩,⟨-r,0,0⟩,⟨0,r,0⟩,⟨0,-r,0⟩,⟨r,0,h⟩,⟨-r,0,h⟩,⟨0,r,h⟩,⟨0,-r,h⟩]:List V3),v∈l):8<=l.length:=by
 refine wb5 (s:=[⟨r,0,0⟩,⟨-r,0,0⟩,⟨0,r,0⟩,⟨0,-r,0⟩,⟨r,0,h⟩,⟨-r,0,h⟩,⟨0,r,h⟩,⟨0,-r,h⟩]) ?_ hl;simp only[Qkj,Qbi,V3.mk.injEq,Qis,or_false,Qkl,and_true,not_false_eq_true,not_or];refine⟨?_,?_,?_,?_,?_,?_,?_⟩<;>omega
theorem jf1{r h:Int}{l:PLq}(hl:∀p∈([⟨⟨0,0,1⟩,h⟩,⟨⟨0,0,-1⟩,0⟩,⟨⟨1,0,0⟩,r⟩,⟨⟨-1,0,0⟩,r⟩,⟨⟨0,1,0⟩,r⟩,⟨⟨0,-1,0⟩,r⟩]:PLq),p∈l):6<=l.length:=by
 refine wb5 (s:=[⟨⟨0,0,1⟩,h⟩,⟨⟨0,0,-1⟩,0⟩,⟨⟨1,0,0⟩,r⟩,⟨⟨-1,0,0⟩,r⟩,⟨⟨0,1,0⟩,r⟩,⟨⟨0,-1,0⟩,r⟩]) ?_ hl;simp
theorem Te6{l r:List V3}(hl:l.all inV=true)(h:∀v,v∈l↔v∈r):F0 l=F0 r:=by
 have hr:r.all inV=true:=Qcb.2 λv hv=>Qcb.1 hl v ((h v).2 hv)
 refine gc8 (qc5 _) (qc5 _) λp=>?_
 rw[E9 hl,E9 hr];exact⟨hc6 λv=>(h v).symm,hc6 h⟩
theorem Ge5{l r:List V3}(hl:l.all inV=true)(h:∀v,v∈l↔v∈r):Ea8 (F0 l) l=Ea8 (F0 r) r:=by
 have hr:r.all inV=true:=Qcb.2 λv hv=>Qcb.1 hl v ((h v).2 hv)
 refine dc9 _ _ ((jd4 l).filter _) ((jd4 r).filter _) λv=>?_
 rw[Ac8 hl,Ac8 hr,h,Te6 hl h]
theorem wb6{σ:Type}{step:σ->Stp σ}{mk:Nat->σ}{fin:Nat}(n:Nat)(hn:n<=1000)(h:∀j,j<n->step (mk j)=.next (mk (j+1)))(hf:step (mk n)=.exit fin):lp step (mk 0)=(fin,mk n):=by
 have key:=Zb9 (step:=step) (I:=λm s=>∃j,j+m=n/\s=mk j) (Q:=λt s=>t=fin/\s=mk n) (λm s ⟨j,h1,h2⟩=>by
  subst h2;cases m with
  |zero =>
   have e:j=n:=by omega
   subst e;exact .inl ⟨fin,hf,rfl,rfl⟩
  |succ m=>exact .inr ⟨_,m,rfl,h j (by omega),j+1,by omega,rfl⟩) n (mk 0) (by omega) ⟨0,by omega,rfl⟩
 exact Prod.ext key.1 key.2
def aR(r:Int):Int:=([0,0,1,2,2,3,4,4,5]:List Int).getD r.toNat 0
def bR(r:Int):Int:=([0,1,1,2,2,3,3,3,4]:List Int).getD r.toNat 0
theorem Wc5{r:Int}(h1:1<=r)(h8:r<=8):r=1\/r=2\/r=3\/r=4\/r=5\/r=6\/r=7\/r=8:=by omega
theorem jf2{r:Int}(h1:1<=r)(h8:r<=8):Oa8 ⟨r⟩=⟨1,aR r⟩:=by
 have key:∀n:Nat,n<=5->(∀j,j<n->ha1 ⟨r⟩ ⟨(j:Int)⟩=.next ⟨((j+1:Nat):Int)⟩)->ha1 ⟨r⟩ ⟨(n:Int)⟩=.exit 1->Oa8 ⟨r⟩=⟨1,(n:Int)⟩:=λn hn h hf=>by
  have e:=wb6 (step:=ha1 ⟨r⟩) (mk:=λj=>⟨(j:Int)⟩) n (by omega) h hf
  have e:lp (ha1 (⟨r⟩:Hb0)) (⟨0⟩:r6)=(1,⟨(n:Int)⟩):=e;unfold Oa8 Hb2;simp only[e,Qiad,g7]
 rcases Wc5 h1 h8 with rfl|rfl|rfl|rfl|rfl|rfl|rfl|rfl
 ·exact key 0 (by omega) (λj hj=>by omega) (by kernel_rfl)
 ·exact key 1 (by omega) (λj hj=>by (rcases j with _ | j)<;>first | omega | kernel_rfl) (by kernel_rfl)
 ·exact key 2 (by omega) (λj hj=>by (rcases j with _ | _ | j)<;>first | omega | kernel_rfl) (by kernel_rfl)
 ·exact key 2 (by omega) (λj hj=>by (rcases j with _ | _ | j)<;>first | omega | kernel_rfl) (by kernel_rfl)
 ·exact key 3 (by omega) (λj hj=>by (rcases j with _ | _ | _ | j)<;>first | omega | kernel_rfl) (by kernel_rfl)
 ·exact key 4 (by omega) (λj hj=>by (rcases j with _ | _ | _ | _ | j)<;>first | omega | kernel_rfl) (by kernel_rfl)
 ·exact key 4 (by omega) (λj hj=>by (rcases j with _ | _ | _ | _ | j)<;>first | omega | kernel_rfl) (by kernel_rfl)
 ·exact key 5 (by omega) (λj hj=>by (rcases j with _ | _ | _ | _ | _ | j)<;>first | omega | kernel_rfl) (by kernel_rfl)
theorem jf3{r:Int}(h1:1<=r)(h8:r<=8):Oa9 ⟨r⟩=⟨1,bR r⟩:=by
 have key:∀n:Nat,n<=5->(∀j,j<n->ha2 ⟨r⟩ ⟨(j:Int)⟩=.next ⟨((j+1:Nat):Int)⟩)->ha2 ⟨r⟩ ⟨(n:Int)⟩=.exit 1->Oa9 ⟨r⟩=⟨1,(n:Int)⟩:=λn hn h hf=>by
  have e:=wb6 (step:=ha2 ⟨r⟩) (mk:=λj=>⟨(j:Int)⟩) n (by omega) h hf
  have e:lp (ha2 (⟨r⟩:Hb0)) (⟨0⟩:r6)=(1,⟨(n:Int)⟩):=e;unfold Oa9 Hb5;simp only[e,Qiad,g7]
 rcases Wc5 h1 h8 with rfl|rfl|rfl|rfl|rfl|rfl|rfl|rfl
 ·exact key 1 (by omega) (λj hj=>by (rcases j with _ | j)<;>first | omega | kernel_rfl) (by kernel_rfl)
 ·exact key 1 (by omega) (λj hj=>by (rcases j with _ | j)<;>first | omega | kernel_rfl) (by kernel_rfl)
 ·exact key 2 (by omega) (λj hj=>by (rcases j with _ | _ | j)<;>first | omega | kernel_rfl) (by kernel_rfl)
 ·exact key 2 (by omega) (λj hj=>by (rcases j with _ | _ | j)<;>first | omega | kernel_rfl) (by kernel_rfl)
 ·exact key 3 (by omega) (λj hj=>by (rcases j with _ | _ | _ | j)<;>first | omega | kernel_rfl) (by kernel_rfl)
 ·exact key 3 (by omega) (λj hj=>by (rcases j with _ | _ | _ | j)<;>first | omega | kernel_rfl) (by kernel_rfl)
 ·exact key 3 (by omega) (λj hj=>by (rcases j with _ | _ | _ | j)<;>first | omega | kernel_rfl) (by kernel_rfl)
 ·exact key 4 (by omega) (λj hj=>by (rcases j with _ | _ | _ | _ | j)<;>first | omega | kernel_rfl) (by kernel_rfl)
theorem jf4{r:Int}(h1:1<=r)(h8:r<=8):Pa0 ⟨r,bR r⟩=⟨1,1⟩:=by
 have key:(∀j,j<1->ha3 ⟨r,bR r⟩ ⟨((j:Nat):Int)⟩=.next ⟨((j+1:Nat):Int)⟩)->ha3 ⟨r,bR r⟩ ⟨((1:Nat):Int)⟩=.exit 1->Pa0 ⟨r,bR r⟩=⟨1,1⟩:=λh hf=>by
  have e:=wb6 (step:=ha3 ⟨r,bR r⟩) (mk:=λj=>⟨(j:Int)⟩) 1 (by omega) h hf
  have e:lp (ha3 (⟨r,bR r⟩:Hb6)) (⟨0⟩:r6)=(1,⟨1⟩):=e;unfold Pa0 Hb8;simp only[e,Qiad,g7]
 rcases Wc5 h1 h8 with rfl|rfl|rfl|rfl|rfl|rfl|rfl|rfl
 all_goals exact key (λj hj=>by (rcases j with _ | j)<;>first | omega | kernel_rfl) (by kernel_rfl)
def prL(x y z:Int):List V3:=[⟨x,y,W (z*0)⟩,⟨x,y,W (z*1)⟩,⟨y,x,W (z*0)⟩,⟨y,x,W (z*1)⟩,⟨W (0-x),y,W (z*0)⟩,⟨W (0-x),y,W (z*1)⟩,⟨W (0-y),x,W (z*0)⟩,⟨W (0-y),x,W (z*1)⟩,
 ⟨x,W (0-y),W (z*0)⟩,⟨x,W (0-y),W (z*1)⟩,⟨y,W (0-x),W (z*0)⟩,⟨y,W (0-x),W (z*1)⟩,⟨W (0-x),W (0-y),W (z*0)⟩,⟨W (0-x),W (0-y),W (z*1)⟩,⟨W (0-y),W (0-x),W (z*0)⟩,⟨W (0-y),W (0-x),W (z*1)⟩]
theorem Dd5{x y z:Int}(hx:0<=x/\x<=100)(hy:0<=y/\y<=100)(hz:0<=z/\z<=100)(v:V3):v∈prL x y z↔Oct x y z v:=by
 have e:∀n:Int,-100<=n/\n<=100->W n=n:=λn hn=>ia6 (by omega) (by omega)
 unfold prL Oct;rw[e (z*0) (by omega),e (z*1) (by omega),e (0-x) (by omega),e (0-y) (by omega)]
 simp only[Qiae,Int.mul_one,Int.zero_sub];obtain⟨p,q,s⟩:=v;simp only[Qbi,Qis,or_false,V3.mk.injEq];constructor
 ·intro h
  rcases h with h|h|h|h|h|h|h|h|h|h|h|h|h|h|h|h<;>(obtain⟨rfl,rfl,rfl⟩:=h;simp)
 ·rintro⟨h|h,hs⟩<;>obtain⟨h1,h2⟩:=h<;>rcases h1 with rfl|rfl<;>rcases h2 with rfl|rfl<;>rcases hs with rfl|rfl<;>simp
def inA(r h:Int):List V3:=prL r 0 h++prL (aR r) (aR r) h
def da8(r h:Int):List V3:=prL r (bR r) h
theorem Te7{r h:Int}(h1:1<=r)(h8:r<=8)(k1:1<=h)(k2:h<=12):oa9 r h=some (.tup [eL tV (E0 (inA r h)).1,eL tV (E0 (da8 r h)).1,i 1,i 0],[]):=by
 unfold oa9;simp only[jf2 h1 h8,jf3 h1 h8,jf4 h1 h8];rw[bf (decide_eq_false (by omega)),bf (decide_eq_false (by omega)),bf (decide_eq_false (by omega)),bf (decide_eq_false (by omega))]
 rfl
theorem he6(a c:List V3)(m n:Int):(bc9 (r1L tV) (r1L tV) r1I r1I).rd (.tup [eL tV a,eL tV c,i m,i n],[])=some (a,c,m,n):=by
 have h:∀l:List V3,(r1L tV).rd [] (eL tV l)=some l:=λl=>qf9 tV l
 simp only[bc9,h];rfl
theorem Dd6{r h:Int}(h1:1<=r)(h8:r<=8)(k1:1<=h)(k2:h<=12):F4 r h=((E0 (inA r h)).1,(E0 (da8 r h)).1,1,0)/\Xa6 r h=true:=by
 have e:Rd (bc9 (r1L tV) (r1L tV) r1I r1I) (oa9 r h) (λq=>q=((E0 (inA r h)).1,(E0 (da8 r h)).1,1,0)):=⟨_,_,Te7 h1 h8 k1 k2,he6 _ _ _ _,rfl⟩
 exact⟨e.p,e.g⟩
theorem Ge6(m n:Int):(bc9 (r1L tV) (r1L tV) r1I r1I).rd (.tup [.v (.slice none 0 0),.v (.slice none 0 0),i m,i n],[])=some ([],[],m,n):=he6 [] [] m n
theorem Pd5{r h:Int}(hb:r<1\/r>8\/h<1\/h>12):F4 r h=([],[],0,3)/\Xa6 r h=true:=by
 have e:Rd (bc9 (r1L tV) (r1L tV) r1I r1I) (oa9 r h) (λq=>q=([],[],0,3)):=by
  have k:Rd (bc9 (r1L tV) (r1L tV) r1I r1I) (some (.tup [.v (.slice none 0 0),.v (.slice none 0 0),i 0,i 3],[])) (λq=>q=([],[],0,3)):=⟨_,_,rfl,Ge6 0 3,rfl⟩
  unfold oa9;refine Rd.sl (λ_=>k) λc1=>Rd.sl (λ_=>k) λc2=>Rd.sl (λ_=>k) λc3=>Rd.sl (λ_=>k) λc4=>?_
  have c1:=of_decide_eq_false c1;have c2:=of_decide_eq_false c2;have c3:=of_decide_eq_false c3;have c4:=of_decide_eq_false c4;omega
 exact⟨e.p,e.g⟩
theorem abR{r:Int}(h1:1<=r)(h8:r<=8):0<=aR r/\2*(aR r*aR r)<=r*r/\aR r<=5/\1<=bR r/\bR r<=r/\bR r<=4/\2*(r*r)<=(r+bR r)*(r+bR r)/\r*r+bR r*bR r<=(r+1)*(r+1):=by
 rcases Wc5 h1 h8 with rfl|rfl|rfl|rfl|rfl|rfl|rfl|rfl<;>decide
theorem Dd7{r b h:Int}(hr:0<=r/\r<=24)(hb:0<=b/\b<=24)(hh:0<=h/\h<=24){v:V3}(hv:Oct r b h v):inV v=true:=by
 obtain⟨h1,h2⟩:=hv;unfold inV;rw[rc1 (by omega) (by omega),rc1 (by omega) (by omega),rc1 (by omega) (by omega)]
 rfl
section
variable{r h:Int}(h1:1<=r)(h8:r<=8)(k1:1<=h)(k2:h<=12)
include h1 h8 k1 k2
theorem ob9(v:V3):v∈da8 r h↔Oct r (bR r) h v:=by
 have:=abR h1 h8
 exact Dd5 (by omega) (by omega) (by omega) v
theorem rc2(v:V3):v∈inA r h↔Oct r 0 h v\/Oct (aR r) (aR r) h v:=by
 have:=abR h1 h8
 unfold inA;rw[Qiai,Dd5 (by omega) (by omega) (by omega),Dd5 (by omega) (by omega) (by omega)]
theorem Bc0:(da8 r h).all inV=true:=by
 have:=abR h1 h8
 exact Qcb.2 λv hv=>Dd7 (by omega) (by omega) (by omega) ((ob9 h1 h8 k1 k2 v).1 hv)
theorem Ge7:(inA r h).all inV=true:=by
 have:=abR h1 h8
 refine Qcb.2 λv hv=>?_
 rcases (rc2 h1 h8 k1 k2 v).1 hv with hv|hv
 ·exact Dd7 (by omega) (by omega) (by omega) hv
 ·exact Dd7 (by omega) (by omega) (by omega) hv
theorem ec0:X3 (da8 r h)=0:=by
 have hb:=abR h1 h8;have m:∀x y z:Int,Oct r (bR r) h ⟨x,y,z⟩->(⟨x,y,z⟩:V3)∈da8 r h:=λx y z q=>(ob9 h1 h8 k1 k2 _).2 q
 refine hc7 (by show (16:Nat)<=48;omega) (Bc0 h1 h8 k1 k2) ⟨⟨r,bR r,0⟩,⟨r,-bR r,0⟩,⟨-r,bR r,0⟩,⟨r,bR r,h⟩,m _ _ _ (by simp[Oct]),m _ _ _ (by simp[Oct]),m _ _ _ (by simp[Oct]),m _ _ _ (by simp[Oct]),?_⟩
 have e:r*bR r*h≠0:=Qkb (Qkb (by omega) (by omega)) (by omega)
 simp only[N3,d7,p6,dot];intro q;apply e;grind
theorem hc9:X3 (inA r h)=0:=by
 have m:∀x y z:Int,Oct r 0 h ⟨x,y,z⟩->(⟨x,y,z⟩:V3)∈inA r h:=λx y z q=>(rc2 h1 h8 k1 k2 _).2 (.inl q)
 refine hc7 (by show (32:Nat)<=48;omega) (Ge7 h1 h8 k1 k2) ⟨⟨r,0,0⟩,⟨0,r,0⟩,⟨-r,0,0⟩,⟨r,0,h⟩,m _ _ _ (by simp[Oct]),m _ _ _ (by simp[Oct]),m _ _ _ (by simp[Oct]),m _ _ _ (by simp[Oct]),?_⟩
 have e:r*r*h≠0:=Qkb (Qkb (by omega) (by omega)) (by omega)
 simp only[N3,d7,p6,dot];intro q;apply e;grind
theorem Dd8:E0 (da8 r h)=(Ea8 (F0 (da8 r h)) (da8 r h),0):=by unfold E0;rw[if_pos (ec0 h1 h8 k1 k2)]
theorem Zd2:E0 (inA r h)=(Ea8 (F0 (inA r h)) (inA r h),0):=by unfold E0;rw[if_pos (hc9 h1 h8 k1 k2)]
theorem Pd6(v:V3):v∈(E0 (da8 r h)).1↔Oct r (bR r) h v:=by
 have hb:=abR h1 h8;have hc:=ec0 h1 h8 k1 k2;obtain⟨_,hl,hs⟩:=U0 hc;have sub:∀v∈(E0 (da8 r h)).1,v∈da8 r h:=λv hv=>((Ga7 _).2.2 v hv).2
 refine⟨λhv=>(ob9 h1 h8 k1 k2 v).1 (sub v hv),λhv=>?_⟩
 refine Ge4 (l:=da8 r h) (λn B hE=>?_) sub (h:=h) (by omega) (λw hw=>((ob9 h1 h8 k1 k2 w).1 hw).2) ((ob9 h1 h8 k1 k2 v).2 hv) λw hw=>?_
 ·rw[Dd8 h1 h8 k1 k2] at hE;exact ob8 hl hs hE
 ·have q : ∀ u : V3, Oct r (bR r) h u → u.x * u.x + u.y * u.y = r * r + bR r * bR r := fun u hu => by
   rcases hu.1 with⟨a|a,c|c⟩|⟨a|a,c|c⟩<;>rw[a,c]<;>grind
  rw[q v hv,q w ((ob9 h1 h8 k1 k2 w).1 hw)];exact Qkf _
theorem Te8(v:V3):(v∈(E0 (inA r h)).1->Oct r 0 h v\/Oct (aR r) (aR r) h v)/\(Oct r 0 h v->v∈(E0 (inA r h)).1):=by
 have hb:=abR h1 h8;have hc:=hc9 h1 h8 k1 k2;obtain⟨_,hl,hs⟩:=U0 hc;have sub:∀v∈(E0 (inA r h)).1,v∈inA r h:=λv hv=>((Ga7 _).2.2 v hv).2
 refine⟨λhv=>(rc2 h1 h8 k1 k2 v).1 (sub v hv),λhv=>?_⟩
 refine Ge4 (l:=inA r h) (λn B hE=>?_) sub (h:=h) (by omega) (λw hw=>?_) ((rc2 h1 h8 k1 k2 v).2 (.inl hv)) λw hw=>?_
 ·rw[Zd2 h1 h8 k1 k2] at hE;exact ob8 hl hs hE
 ·rcases (rc2 h1 h8 k1 k2 w).1 hw with hw|hw<;>exact hw.2
 ·have q : ∀ (b c : Int) (u : V3), Oct b c h u → u.x * u.x + u.y * u.y = b * b + c * c := fun b c u hu => by
   rcases hu.1 with⟨a|a,d|d⟩|⟨a|a,d|d⟩<;>rw[a,d]<;>grind
  rw[q r 0 v hv]
  rcases (rc2 h1 h8 k1 k2 w).1 hw with hw|hw
  ·rw[q r 0 w hw];exact Qkf _
  ·rw[q _ _ w hw];omega
end
theorem Bc1{l d:List V3}(h1:(l.all λv=>d.any λw=>v.x==w.x&&(v.y==w.y&&v.z==w.z))=true)(h2:(d.all λv=>l.any λw=>v.x==w.x&&(v.y==w.y&&v.z==w.z))=true)(v:V3):v∈l↔v∈d:=by
 have k:∀{l d:List V3},(l.all λv=>d.any λw=>v.x==w.x&&(v.y==w.y&&v.z==w.z))=true->v∈l->v∈d:=λ{l d} h hv=>by
  obtain⟨w,hw,e⟩:=Qil.1 (Qcb.1 h v hv);simp only[Qas,beq_iff_eq] at e;obtain⟨a,c,d⟩:=e
  have:v=w:=by cases v;cases w;simp_all
  exact this ▸ hw
 exact⟨k h1,k h2⟩
theorem Bc2{l d e:List V3}(hc:X3 l=0)(hd:d.Pairwise LtV)(hm:∀v,v∈l↔v∈d)(hn:d.filter (kv (F0 d))=e):(E0 l).1=e:=by
 obtain⟨_,hl,_⟩:=U0 hc
 have:dis d=d:=dc9 _ _ (jd4 _) hd λv=>by rw[hc3]
 unfold E0;rw[if_pos hc,Ge5 hl hm];show Ea8 (F0 d) d=e;unfold Ea8;rw[this,hn]
def Ge8:List V3:=[⟨-1,0,0⟩,⟨-1,0,2⟩,⟨0,-1,0⟩,⟨0,-1,2⟩,⟨0,1,0⟩,⟨0,1,2⟩,⟨1,0,0⟩,⟨1,0,2⟩]
def md0:List V3:=[⟨-1,-1,0⟩,⟨-1,-1,2⟩,⟨-1,1,0⟩,⟨-1,1,2⟩,⟨1,-1,0⟩,⟨1,-1,2⟩,⟨1,1,0⟩,⟨1,1,2⟩]
def Te9:List V3:=[⟨-5,0,0⟩,⟨-5,0,1⟩,⟨-3,-3,0⟩,⟨-3,-3,1⟩,⟨-3,3,0⟩,⟨-3,3,1⟩,⟨0,-5,0⟩,⟨0,-5,1⟩,⟨0,5,0⟩,⟨0,5,1⟩,⟨3,-3,0⟩,⟨3,-3,1⟩,⟨3,3,0⟩,⟨3,3,1⟩,⟨5,0,0⟩,⟨5,0,1⟩]
def he7:List V3:=[⟨-5,-3,0⟩,⟨-5,-3,1⟩,⟨-5,3,0⟩,⟨-5,3,1⟩,⟨-3,-5,0⟩,⟨-3,-5,1⟩,⟨-3,5,0⟩,⟨-3,5,1⟩,⟨3,-5,0⟩,⟨3,-5,1⟩,⟨3,5,0⟩,⟨3,5,1⟩,⟨5,-3,0⟩,⟨5,-3,1⟩,⟨5,3,0⟩,⟨5,3,1⟩]
theorem Af9:(E0 (inA 1 2)).1=Ge8 :=
 Bc2 (d:=[⟨-1,0,0⟩,⟨-1,0,2⟩,⟨0,-1,0⟩,⟨0,-1,2⟩,⟨0,0,0⟩,⟨0,0,2⟩,⟨0,1,0⟩,⟨0,1,2⟩,⟨1,0,0⟩,⟨1,0,2⟩]) (hc9 (by omega) (by omega) (by omega) (by omega)) (by simp[LtV]) (Bc1 (by kernel_rfl) (by kernel_rfl)) (by kernel_rfl)
theorem Bf0:(E0 (da8 1 2)).1=md0 :=
 Bc2 (d:=md0) (ec0 (by omega) (by omega) (by omega) (by omega)) (by simp[LtV,md0]) (Bc1 (by kernel_rfl) (by kernel_rfl)) (by kernel_rfl)
theorem Bf1:(E0 (inA 5 1)).1=Te9 :=
 Bc2 (d:=Te9) (hc9 (by omega) (by omega) (by omega) (by omega)) (by simp[LtV,Te9]) (Bc1 (by kernel_rfl) (by kernel_rfl)) (by kernel_rfl)
theorem Bf2:(E0 (da8 5 1)).1=he7 :=
 Bc2 (d:=he7) (ec0 (by omega) (by omega) (by omega) (by omega)) (by simp[LtV,he7]) (Bc1 (by kernel_rfl) (by kernel_rfl)) (by kernel_rfl)
theorem Ue0(p:Pln)(v:V3):nb3 ⟨p.n.x,p.n.y,p.n.z,p.b,v.x,v.y,v.z⟩=⟨1,decide (la7 p v>0)⟩:=by
 unfold nb3 Qb3;simp only[zc1,zc2];rfl
theorem Ue1(l:PLq)(v:V3)(hl:l.length<=1000000000) :
  V5 ⟨l,v.x,v.y,v.z⟩=⟨1,if l.any (λp=>decide (la7 p v>0)) then ((l.findIdx (λp=>decide (la7 p v>0)):Nat):Int) else -1⟩:=by
 have h:=qa7 (step:=F6 ⟨l,(l.length:Int),v.x,v.y,v.z⟩) (mk:=λj=>(⟨(j:Int)⟩:m9)) (c:=λp=>decide (la7 p v>0)) (u:=1) (fin:=2) tP l hl
  (λj hj=>by
   simp only[F6,N6,Int.toNat_natCast,Ue0,D2 hj (show l.length<=4611686018427387904 by omega)]
   rw[btD (Q6 hj),bt (i9 hj)]
   rfl)
  (by simp only[F6,N6];rw[bfD (Z3 (Qid _))]) 0 (Qbw _)
 rw[Qim] at h;unfold V5 ma0;simp only[i8,j6];rw[show (⟨0⟩:m9)=⟨((0:Nat):Int)⟩ from rfl,h]
 split
 ·simp only[Qar];rfl
 ·rfl
theorem he8(l:PLq)(v:V3)(hl:l.length<=1000000000):O4 ⟨l,v.x,v.y,v.z⟩=⟨1,l.any λp=>decide (la7 p v>0)⟩:=by
 unfold O4 da3;simp only[i8,j6,Ue1 l v hl];split
 ·rename_i h;rw[h,show decide (((l.findIdx (λp=>decide (la7 p v>0)):Nat):Int)>=0)=true from decide_eq_true (by omega)];rfl
 ·rename_i h;rw[Qix] at h;rw[h];rfl
theorem jf5{l:List V3}(hc:X3 l=0){v:V3}(hv:inV v=true)(hf:∀p∈F0 l,dot p.n v<=p.b):Ra3 l v=some (b true,[]):=by
 obtain⟨h48,hl,h4⟩:=U0 hc;have hne:1<=l.length:=by
  obtain⟨a,ha⟩:=h4.ne;exact Qkk ha
 have hg:Ma8 l=true:=decide_eq_true ⟨hne,by omega⟩
 have hp:za4 l=(F0 l,0):=by unfold za4 Ea9;rw[if_pos hc]
 have hF:=zc5 h48 hl;have hany:(F0 l).any (λp=>decide (la7 p v>0))=false:=by
  rw[Qbq];intro p hp' hs
  have:=(yc2 ((E9 hl p).1 hp').ok hv).1 (of_decide_eq_true hs)
  have:=hf p hp'
  omega
 unfold Ra3;simp only[i8,G3,j6,hg,hp,(Fb0 v).1,(Fb0 v).2,hv,he8 (F0 l) v (by omega),hany]
 rfl
theorem he9{l:List V3}(hc:X3 l=0){v:V3}(hv:inV v=true):Ra3 l v=some (b (decide (∀p∈F0 l,dot p.n v<=p.b)),[]):=by
 by_cases hf:∀p∈F0 l,dot p.n v<=p.b
 ·rw[jf5 hc hv hf,decide_eq_true hf]
 obtain⟨h48,hl,h4⟩:=U0 hc;have hne:1<=l.length:=by
  obtain⟨a,ha⟩:=h4.ne;exact Qkk ha
 have hg:Ma8 l=true:=decide_eq_true ⟨hne,by omega⟩
 have hp:za4 l=(F0 l,0):=by unfold za4 Ea9;rw[if_pos hc]
 have hF:=zc5 h48 hl;have hany:(F0 l).any (λp=>decide (la7 p v>0))=true:=by
  rw[Qil];apply Qeb;intro hno;refine hf λp hp'=>?_
  apply Qeb;intro hlt;exact hno ⟨p,hp',decide_eq_true ((yc2 ((E9 hl p).1 hp').ok hv).2 (by omega))⟩
 rw[decide_eq_false hf];unfold Ra3;simp only[i8,G3,j6,hg,hp,(Fb0 v).1,(Fb0 v).2,hv,he8 (F0 l) v (by omega),hany]
 rfl
def ec1(l:List V3)(v:V3):Bool:=(F0 l).all λp=>decide (dot p.n v<=p.b)
theorem Bc3{l:List V3}{v:V3}:ec1 l v=true↔∀p∈F0 l,dot p.n v<=p.b:=by
 unfold ec1;rw[Qcb];exact⟨λh p hp=>of_decide_eq_true (h p hp),λh p hp=>decide_eq_true (h p hp)⟩
theorem Zd3{l:List V3}(hc:X3 l=0){v:V3}(hv:inV v=true):bb4 l v=ec1 l v:=by
 unfold bb4;rw[he9 hc hv];show decide _=_;by_cases h:∀p∈F0 l,dot p.n v<=p.b
 ·rw[decide_eq_true h,Bc3.2 h]
 ·rw[decide_eq_false h];cases hh:ec1 l v with
  |false=>rfl
  |true=>exact absurd (Bc3.1 hh) h
theorem Zd4{l:List V3}(hc:X3 l=0){v:V3}(hv:inV v=true):bb5 l v=true:=by unfold bb5;rw[he9 hc hv];rfl
def byd(n:Int)(v:V3):Bool:=decide ((if v.z>(if v.y>v.x then v.y else v.x) then v.z else (if v.y>v.x then v.y else v.x))>n)||decide ((if v.z<(if v.y<v.x then v.y else v.x) then v.z else (if v.y<v.x then v.y else v.x)) < -n)
def Zd5(l:List V3):Bool:=decide ((l.length:Int)<4)||decide ((l.length:Int)>16)
def shr(n:Int):Bool:=decide (n<1)||decide (n>1048576)
theorem Pd7{x y:Bool}:sl x (some (b true,([]:List b7))) (some (b y,[]))=some (b (x||y),[]):=by cases x<;>rfl
theorem jf6(l:List V3):X8 l=Zd5 l:=by unfold X8 O1;rw[Pd7];rfl
theorem jf7(l:List V3):X9 l=true:=by unfold X9 O1;rw[Pd7];rfl
theorem Ye9(v:V3)(n:Int)(hn:0<=n/\n<=1000):Ma9 v n=some (b (byd n v),[]):=by
 unfold Ma9;rw[show W (0-n)=-n from by rw[ia6 (by omega) (by omega)];omega,Pd7]
 rfl
theorem Ze0(v:V3)(n:Int)(hn:0<=n/\n<=1000):Na0 v n=byd n v:=by unfold Na0;rw[Ye9 v n hn];rfl
theorem Ze1(v:V3)(n:Int)(hn:0<=n/\n<=1000):Na1 v n=true:=by unfold Na1;rw[Ye9 v n hn];rfl
theorem Ze2(v:V3):P4 v=some (b (byd 12 v),[]):=by unfold P4;simp only[Ze0 v 12 (by omega),Ze1 v 12 (by omega),g7]
theorem sf7(v:V3):aa9 v=byd 12 v:=by unfold aa9;rw[Ze2];rfl
theorem sf8(v:V3):ba0 v=true:=by unfold ba0;rw[Ze2];rfl
theorem Ze3(v:V3):P5 v=some (b (byd 1000 v),[]):=by unfold P5;simp only[Ze0 v 1000 (by omega),Ze1 v 1000 (by omega),g7]
theorem sf9(v:V3):ba1 v=byd 1000 v:=by unfold ba1;rw[Ze3];rfl
theorem tf0(v:V3):ba2 v=true:=by unfold ba2;rw[Ze3];rfl
theorem tf1(n:Int):ba3 n=shr n:=by unfold ba3 P6;rw[Pd7];rfl
theorem tf2(n:Int):ba4 n=true:=by unfold ba4 P6;rw[Pd7];rfl
theorem Ge9(l:List V3)(hl:l.length<=1000000):S7 l=some (b (X3 l != 0),[]):=by unfold S7;simp only[i8,G3,zc3 l hl,zc4 l hl,g7]
theorem jf8(l:List V3)(hl:l.length<=1000000):ea3 l=(X3 l != 0):=by unfold ea3;rw[Ge9 l hl];rfl
theorem jf9(l:List V3)(hl:l.length<=1000000):ea4 l=true:=by unfold ea4;rw[Ge9 l hl];rfl
theorem qe7(l:List (List V3))(hl:l.length<=1000000000):Y1 ⟨l⟩=⟨1,if l.any Zd5 then ((l.findIdx Zd5:Nat):Int) else -1⟩:=by
 have h:=qa7 (step:=I8 ⟨l,(l.length:Int)⟩) (mk:=λj=>(⟨(j:Int)⟩:m9)) (c:=Zd5) (u:=1) (fin:=2) (tLs tV) l hl
  (λj hj=>by
   simp only[I8,O5,Int.toNat_natCast,i8,G3,jf6,jf7,D2 hj (by omega)]
   rw[bt (Da8 hj),bt (i9 hj)];simp only[g7])
  (by simp only[I8,O5];rw[bf (oa2 (Qid _))]) 0 (Qbw _)
 rw[Qim] at h;unfold Y1 pa8;simp only[i8,j6,Qii,g7];rw[show (⟨0⟩:m9)=⟨((0:Nat):Int)⟩ from rfl,h]
 split
 ·simp only[Qar];rfl
 ·rfl
theorem qe8(l:List (List V3))(hl:l.length<=1000000000):Q7 ⟨l⟩=⟨1,l.any Zd5⟩:=by
 unfold Q7 ea7;simp only[i8,j6,qe7 l hl];split
 ·rename_i h;rw[h,show decide (((l.findIdx Zd5:Nat):Int)>=0)=true from decide_eq_true (by omega)];rfl
 ·rename_i h;rw[Qix] at h;rw[h];rfl
theorem He0(l:List V3)(hl:l.length<=1000000000):ba6 ⟨l⟩=⟨1,if l.any (byd 12) then ((l.findIdx (byd 12):Nat):Int) else -1⟩:=by
 have h:=qa7 (step:=K3 ⟨l,(l.length:Int)⟩) (mk:=λj=>(⟨(j:Int)⟩:m9)) (c:=byd 12) (u:=1) (fin:=2) tV l hl
  (λj hj=>by
   simp only[K3,Q8,Int.toNat_natCast,i8,G3,sf7,sf8,D2 hj (by omega)]
   rw[bt (Da8 hj),bt (i9 hj)];simp only[g7])
  (by simp only[K3,Q8];rw[bf (oa2 (Qid _))]) 0 (Qbw _)
 rw[Qim] at h;unfold ba6 ua0;simp only[i8,j6,Qii,g7];rw[show (⟨0⟩:m9)=⟨((0:Nat):Int)⟩ from rfl,h]
 split
 ·simp only[Qar];rfl
 ·rfl
theorem He1(l:List V3)(hl:l.length<=1000000000):T0 ⟨l⟩=⟨1,l.any (byd 12)⟩:=by
 unfold T0 ja1;simp only[i8,j6,He0 l hl];split
 ·rename_i h;rw[h,show decide (((l.findIdx (byd 12):Nat):Int)>=0)=true from decide_eq_true (by omega)];rfl
 ·rename_i h;rw[Qix] at h;rw[h];rfl
theorem He2(l:List V3)(hl:l.length<=1000000000):ba7 ⟨l⟩=⟨1,if l.any (byd 1000) then ((l.findIdx (byd 1000):Nat):Int) else -1⟩:=by
 have h:=qa7 (step:=K4 ⟨l,(l.length:Int)⟩) (mk:=λj=>(⟨(j:Int)⟩:m9)) (c:=byd 1000) (u:=1) (fin:=2) tV l hl
  (λj hj=>by
   simp only[K4,Q9,Int.toNat_natCast,i8,G3,sf9,tf0,D2 hj (by omega)]
   rw[bt (Da8 hj),bt (i9 hj)];simp only[g7])
  (by simp only[K4,Q9];rw[bf (oa2 (Qid _))]) 0 (Qbw _)
 rw[Qim] at h;unfold ba7 ua3;simp only[i8,j6,Qii,g7];rw[show (⟨0⟩:m9)=⟨((0:Nat):Int)⟩ from rfl,h]
 split
 ·simp only[Qar];rfl
 ·rfl
theorem He3(l:List V3)(hl:l.length<=1000000000):T1 ⟨l⟩=⟨1,l.any (byd 1000)⟩:=by
 unfold T1 ja4;simp only[i8,j6,He2 l hl];split
 ·rename_i h;rw[h,show decide (((l.findIdx (byd 1000):Nat):Int)>=0)=true from decide_eq_true (by omega)];rfl
 ·rename_i h;rw[Qix] at h;rw[h];rfl
theorem He4(l:List Int)(hl:l.length<=1000000000):ba8 ⟨l⟩=⟨1,if l.any shr then ((l.findIdx shr:Nat):Int) else -1⟩:=by
 have h:=qa7 (step:=K5 ⟨l,(l.length:Int)⟩) (mk:=λj=>(⟨(j:Int)⟩:m9)) (c:=shr) (u:=1) (fin:=2) tI l hl
  (λj hj=>by
   simp only[K5,R2,Int.toNat_natCast,i8,G3,tf1,tf2,D2 hj (by omega)]
   rw[bt (Da8 hj),bt (i9 hj)];simp only[g7])
  (by simp only[K5,R2];rw[bf (oa2 (Qid _))]) 0 (Qbw _)
 rw[Qim] at h;unfold ba8 ua6;simp only[i8,j6,Qii,g7];rw[show (⟨0⟩:m9)=⟨((0:Nat):Int)⟩ from rfl,h]
 split
 ·simp only[Qar];rfl
 ·rfl
theorem He5(l:List Int)(hl:l.length<=1000000000):T2 ⟨l⟩=⟨1,l.any shr⟩:=by
 unfold T2 ja7;simp only[i8,j6,He4 l hl];split
 ·rename_i h;rw[h,show decide (((l.findIdx shr:Nat):Int)>=0)=true from decide_eq_true (by omega)];rfl
 ·rename_i h;rw[Qix] at h;rw[h];rfl
theorem qe9(l:List (List V3))(hl:l.length<=1000000000)(hq:∀q∈l,q.length<=1000000):Y2 ⟨l⟩=⟨1,if l.any (λl=>X3 l != 0) then ((l.findIdx (λl=>X3 l != 0):Nat):Int) else -1⟩:=by
 have h:=qa7 (step:=I9 ⟨l,(l.length:Int)⟩) (mk:=λj=>(⟨(j:Int)⟩:m9)) (c:=(λl=>X3 l != 0)) (u:=1) (fin:=2) (tLs tV) l hl
  (λj hj=>by
   have hm:=hq _ (Qa8 (tLs tV) hj);simp only[I9,O6,Int.toNat_natCast,i8,G3,jf8 _ hm,jf9 _ hm,D2 hj (by omega)]
   rw[bt (Da8 hj),bt (i9 hj)];simp only[g7])
  (by simp only[I9,O6];rw[bf (oa2 (Qid _))]) 0 (Qbw _)
 rw[Qim] at h;unfold Y2 qa1;simp only[i8,j6,Qii,g7];rw[show (⟨0⟩:m9)=⟨((0:Nat):Int)⟩ from rfl,h]
 split
 ·simp only[Qar];rfl
 ·rfl
theorem re0(l:List (List V3))(hl:l.length<=1000000000)(hq:∀q∈l,q.length<=1000000):R3 ⟨l⟩=⟨1,l.any (λl=>X3 l != 0)⟩:=by
 unfold R3 fa1;simp only[i8,j6,qe9 l hl hq];split
 ·rename_i h;rw[h,show decide (((l.findIdx (λl=>X3 l != 0):Nat):Int)>=0)=true from decide_eq_true (by omega)];rfl
 ·rename_i h;rw[Qix] at h;rw[h];rfl
structure SzT(x:Tol):Prop where
 inn:x.inn.length<=1000
 li:x.li.length<=1000
 fo:x.fo.length<=1000
 el:∀q∈x.ou::x.ho::x.inn,q.length<=1000000
theorem He6{c:Bool}{a:Bool}:sl c (some (b a,([]:List b7))) (some (b false,[]))=some (b (c&&a),[]):=by cases c<;>rfl
section
variable(x:Tol)(hs:SzT x)
include hs
theorem Ue2:P7 x=some (.sl 0 0 (x.ou::x.ho::x.inn).length 0,[⟨25,(tLs tV).es,bL (tLs tV) (x.ou::x.ho::x.inn),true,false,0⟩]):=by
 have h0:=hs.inn;have hl:len (m8 (λk=>(tLs tV).row (gL (tLs tV) x.inn k)) (List.range x.inn.length))=x.inn.length:=by rw[cd8,j8,bL,j7,List.length_map]
 unfold P7;simp only[hl];rw[show (Nat.beq 2 2&&Nat.ble ((2+x.inn.length)*24) room)=true from by rw[Qiad,Bool.true_and,Nat.ble_eq];unfold room;omega,g7,cd8]
 rw[show (x.ou::x.ho::x.inn).length=2+x.inn.length from by simp only[List.length_cons];omega]
 rfl
theorem ic0:Z4 x=x.ou::x.ho::x.inn/\Z5 x=true:=by
 have e:Rd (one (r1L (tLs tV))) (P7 x) (λq=>q=x.ou::x.ho::x.inn):=⟨_,_,Ue2 x hs,ff9 (tLs tV) 25 _,rfl⟩
 exact⟨e.p,e.g⟩
theorem Lc6:(x.ou::x.ho::x.inn).length<=1000000000:=by have:=hs.inn;simp only[List.length_cons];omega
def Pd8(x:Tol):Bool:=decide ((x.inn.length:Int)>0)&&(decide ((x.inn.length:Int)<=3)&&(((x.li.length:Int)==(x.inn.length:Int))&&(decide ((x.fo.length:Int)>0)&&(decide ((x.fo.length:Int)<=4)&&!(x.ou::x.ho::x.inn).any Zd5))))
theorem re1:S8 x=some (b (Pd8 x),[]):=by
 unfold S8;simp only[i8,G3,j6,(ic0 x hs).1,(ic0 x hs).2,qe8 _ (Lc6 x hs),Qii,g7,Qiad,He6];rfl
def Pd9(x:Tol):Bool:=!(x.ou::x.ho::x.inn).any (λl=>l.any (byd 12))&&(!x.li.any shr&&(decide (x.ru>=0)&&(decide (x.ru<=2)&&!x.fo.any (byd 1000))))
theorem re2(P:D6)(l:List (List V3))(h1:P.Ed0=l)(h2:P.C8=(l.length:Int))(hl:l.length<=1000000000)(hq:∀q∈l,q.length<=1000000) :
  (lp (F8 P) ⟨0⟩).1=if l.any (λl=>l.any (byd 12)) then 1 else 2:=by
 have h:=Xd0 (step:=F8 P) (mk:=λj=>(⟨(j:Int)⟩:B4)) (c:=λl=>l.any (byd 12)) (u:=1) (fin:=2) (tLs tV) l hl
  (λj hj=>by
   have hm:=hq _ (Qa8 (tLs tV) hj);simp only[F8,V6,Int.toNat_natCast,i8,j6,h1,h2,He1 _ (show (gL (tLs tV) l j).length<=1000000000 by omega),D2 hj (by omega)]
   rw[bt (Da8 hj),bt (i9 hj)];simp only[Qii,g7,Qiad])
  (by simp only[F8,V6,h1,h2];rw[bf (oa2 (Qid _))]) 0 (Qbw _)
 rw[Qim] at h;exact h
theorem He7:W0 x=some (b (Pd9 x),[]):=by
 have hL:=re2 x hs (⟨x.ou::x.ho::x.inn,((x.ou::x.ho::x.inn).length:Int),x.nm,x.ou,x.inn,x.ho,x.li,x.ru,x.fo⟩:D6) _ rfl rfl (Lc6 x hs) hs.el;have k1:=He5 x.li (by have:=hs.li;omega)
 have k2:=He3 x.fo (by have:=hs.fo;omega)
 unfold W0;simp only[i8,G3,j6,(ic0 x hs).1,(ic0 x hs).2,k1,k2,Qii,g7,hL,Qiad];unfold Pd9;cases (x.ou::x.ho::x.inn).any λl=>l.any (byd 12) with
 |true=>rfl
 |false =>
  simp only[He6];rfl
def pd3(x:Tol):Bool:=!(x.ou::x.ho::x.inn).any λl=>X3 l != 0
theorem Ue3:Z8 x=some (b (pd3 x),[]):=by
 unfold Z8;simp only[i8,G3,j6,(ic0 x hs).1,(ic0 x hs).2,re0 _ (Lc6 x hs) hs.el,Qii,g7,Qiad];rfl
def Ec8(x:Tol):Bool:=!(List.range (x.li.length-1)).any λj=>decide (gL tI x.li j>=gL tI x.li (j+1))
theorem re3(h0:0<x.li.length):T4 x=some (b (Ec8 x),[]):=by
 have hl:=hs.li;obtain⟨j,h⟩:=Jc0 (step:=E3 ⟨((x.li.length-1:Nat):Int),x.nm,x.ou,x.inn,x.ho,x.li,x.ru,x.fo⟩) (mk:=λj=>(⟨(j:Int)⟩:L3)) (x.li.length-1) (λj=>decide (gL tI x.li j>=gL tI x.li (j+1))) 1 2 (by omega)
  (λj hj=>by
   simp only[E3,T3,Int.toNat_natCast,D2 hj (by omega)]
   rw[bt (Da8 hj),bt (i9 (show j<x.li.length by omega)),bt (i9 (show j+1<x.li.length by omega))])
  (by simp only[E3,T3];rw[bf (oa2 (Qid _))])
 have h:lp (E3 ⟨((x.li.length-1:Nat):Int),x.nm,x.ou,x.inn,x.ho,x.li,x.ru,x.fo⟩) ⟨0⟩=_:=h;unfold T4;simp only[i8,G3,j6,Qii,g7,h];rw[show inB 1 (x.li.length+1)=true from i9 (j:=1) (by omega),g7]
 unfold Ec8;cases (List.range (x.li.length-1)).any λj=>decide (gL tI x.li j>=gL tI x.li (j+1))<;>rfl
def md1(x:Tol)(j:Nat):List V3:=match j with
 |0=>x.ou
 |j+1=>gL (tLs tV) x.inn j
def Qd0(x:Tol):Bool:=!(List.range x.inn.length).any λj=>(gL (tLs tV) x.inn j).any λv=>!ec1 (md1 x j) v
omit hs in
theorem Ue4{o:List V3}(hc:X3 o=0){v:V3}(hv:inV v=true):ba5 ⟨v.x,v.y,v.z,o⟩=⟨1,!ec1 o v⟩:=by
 have e:(⟨v.x,v.y,v.z⟩:V3)=v:=rfl;unfold ba5 ta7;simp only[i8,G3,e,Zd3 hc hv,Zd4 hc hv,g7]
omit hs in
theorem He8(l o:List V3)(hl:l.length<=1000000000)(hc:X3 o=0)(hv:∀v∈l,inV v=true):∃n:Int,ba9 ⟨l,o⟩=⟨1,n,o⟩/\(decide (n>=0)=l.any λv=>!ec1 o v):=by
 have h:=qa7 (step:=D7 ⟨l,(l.length:Int)⟩) (mk:=λj=>(⟨(j:Int),o⟩:q9)) (c:=λv=>!ec1 o v) (u:=1) (fin:=2) tV l hl
  (λj hj=>by
   simp only[D7,R4,Int.toNat_natCast,i8,G3,j6,Ue4 hc (hv _ (Qa8 tV hj)),D2 hj (by omega)]
   rw[bt (Da8 hj),bt (i9 hj)];simp only[Qii,g7,Qiad])
  (by simp only[D7,R4];rw[bf (oa2 (Qid _))]) 0 (Qbw _)
 rw[Qim] at h;have h:lp (D7 ⟨l,(l.length:Int)⟩) ⟨0,o⟩=_:=h;unfold ba9 va0;simp only[i8,j6,Qii,g7,h];by_cases hh:l.any (λv=>!ec1 o v)=true
 ·simp only[hh,if_true];exact⟨_,rfl,by rw[decide_eq_true_eq];omega⟩
 ·rw[Qix] at hh;simp only[hh];exact⟨_,rfl,rfl⟩
omit hs in
theorem He9(l o:List V3)(hl:l.length<=1000000000)(hc:X3 o=0)(hv:∀v∈l,inV v=true):T6 ⟨l,o⟩=⟨1,l.any λv=>!ec1 o v,o⟩:=by
 obtain⟨n,h1,h2⟩:=He8 l o hl hc hv;unfold T6 ka1;simp only[i8,j6,h1,h2,Qii,g7,Qiad]
theorem Ie0(hsol:pd3 x=true):W5 x=some (b (Qd0 x),[]):=by
 have hl:=hs.inn;have hz:∀q∈x.ou::x.ho::x.inn,X3 q=0:=λq hq=>by
  unfold pd3 at hsol;rw[Qcc,Qbq] at hsol;simpa using hsol q hq
 have hp:∀j,j<=x.inn.length->X3 (md1 x j)=0:=λj hj=>by
  cases j with
  |zero=>exact hz _ (by simp[md1])
  |succ j=>exact hz _ (by simp only[md1,Qbi];exact .inr (.inr (Qa8 (tLs tV) (by omega))))
 obtain⟨j,h⟩:=Jc0 (step:=F9 ⟨x.inn,(x.inn.length:Int)⟩) (mk:=λj=>(⟨(j:Int),md1 x j⟩:B5)) x.inn.length (λj=>(gL (tLs tV) x.inn j).any λv=>!ec1 (md1 x j) v) 1 2 (by omega)
  (λj hj=>by
   have hm:gL (tLs tV) x.inn j∈x.ou::x.ho::x.inn:=by simp only[Qbi];exact .inr (.inr (Qa8 (tLs tV) hj))
   have hin:=Qcb.1 (U0 (hz _ hm)).2.1;have he:=hs.el _ hm;simp only[F9,V7,Int.toNat_natCast,i8,j6,He9 _ _ (show (gL (tLs tV) x.inn j).length<=1000000000 by omega) (hp j (by omega)) hin,D2 hj (by omega)]
   rw[bt (Da8 hj),bt (i9 hj)];simp only[Qii,g7,Qiad]
   rfl)
  (by simp only[F9,V7];rw[bf (oa2 (Qid _))])
 have h:lp (F9 ⟨x.inn,(x.inn.length:Int)⟩) ⟨0,x.ou⟩=_:=h;unfold W5;simp only[i8,G3,j6,Qii,g7,h];unfold Qd0;cases (List.range x.inn.length).any λj=>(gL (tLs tV) x.inn j).any λv=>!ec1 (md1 x j) v<;>rfl
end
def Ue5:ByteArray:=⟨#[97,98,99,100,101,102,103,104,105,106,107,108,109,110,111,112,113,114,115,116,117,118,119,120,121,122,48,49,50,51,52,53,54,55,56,57]⟩
def Qd1(s:ByteArray):Bool:=decide ((s.size:Int)>0)&&(decide ((s.size:Int)<=12)&&((ge5 s Ue5).data.toList==[]))
theorem Ue6:(Ue5.data.toList.all λb=>decide (b.toNat<128))=true:=by decide +kernel
theorem Ue7(x:Tol):Z6 x=some (b (Qd1 x.nm),[]):=by
 unfold Z6 Qd1;rw[show (⟨#[97,98,99,100,101,102,103,104,105,106,107,108,109,110,111,112,113,114,115,116,117,118,119,120,121,122,48,49,50,51,52,53,54,55,56,57]⟩:ByteArray)=Ue5 from rfl]
 rw[Go.Lib.toList_data,Go.Lib.toList_data];by_cases h0:(x.nm.size:Int)>0
 ·by_cases h1:(x.nm.size:Int)<=12
  ·have hg : Od9 x.nm Ue5 = true := by
    unfold Od9;rw[Ue6];have a1:Nat.blt 0 x.nm.size=true:=by rw[Qcf];omega
    have a2:Nat.ble x.nm.size 9223372036854775807=true:=by rw[Nat.ble_eq];omega
    rw[a1,a2];rfl
   rw[decide_eq_true h0,decide_eq_true h1,g7,g7,hg,g7];rfl
  ·rw[decide_eq_true h0,decide_eq_false h1];rfl
 ·rw[decide_eq_false h0];rfl
def Zd6(x:Tol):Int:=bif !Qd1 x.nm then 10 else bif !Pd8 x then 2 else bif !Pd9 x then 3 else bif !pd3 x then 11 else bif !Ec8 x then 7 else bif !Qd0 x then 15 else 0
section
variable(x:Tol)(hs:SzT x)
def fb2:m0:=⟨x.nm,x.ou,x.inn,x.ho,x.li,x.ru,x.fo,x.nm,x.ou,x.inn,x.ho,x.li,x.ru,x.fo,x.nm,x.ou,x.inn,x.ho,x.li,x.ru,x.fo,x.nm,x.ou,x.inn,x.ho,x.li,x.ru,x.fo,x.nm,x.ou,x.inn,x.ho,x.li,x.ru,x.fo,x.nm,x.ou,x.inn,x.ho,x.li,x.ru,x.fo⟩
theorem Zd7:q7 (fb2 x) ⟨0⟩=sl (!Qd1 x.nm) (.exit 1) (.next ⟨1⟩):=by
 have e:Z7 x=Qd1 x.nm/\oa6 x=true:=by unfold Z7 oa6;rw[Ue7 x];exact⟨rfl,rfl⟩
 have e0:(⟨x.nm,x.ou,x.inn,x.ho,x.li,x.ru,x.fo⟩:Tol)=x:=rfl;show Ia5 Stp.next Stp.exit Stp.fail (fb2 x) ⟨0⟩=_;simp only[Ia5,fb2,i8,G3,Qii,e0,e.1,e.2,g7]
include hs in
theorem re4:q7 (fb2 x) ⟨1⟩=sl (!Pd8 x) (.exit 2) (.next ⟨2⟩):=by
 have e:S9 x=Pd8 x/\ea8 x=true:=by unfold S9 ea8;rw[re1 x hs];exact⟨rfl,rfl⟩
 have e0:(⟨x.nm,x.ou,x.inn,x.ho,x.li,x.ru,x.fo⟩:Tol)=x:=rfl;show Ia6 Stp.next Stp.exit Stp.fail (fb2 x) ⟨1⟩=_;simp only[Ia6,fb2,i8,G3,Qii,e0,e.1,e.2,g7]
include hs in
theorem Ie1:q7 (fb2 x) ⟨2⟩=sl (!Pd9 x) (.exit 3) (.next ⟨3⟩):=by
 have e:W4 x=Pd9 x/\ka5 x=true:=by unfold W4 ka5;rw[He7 x hs];exact⟨rfl,rfl⟩
 have e0:(⟨x.nm,x.ou,x.inn,x.ho,x.li,x.ru,x.fo⟩:Tol)=x:=rfl;show Ia7 Stp.next Stp.exit Stp.fail (fb2 x) ⟨2⟩=_;simp only[Ia7,fb2,i8,G3,Qii,e0,e.1,e.2,g7]
include hs in
theorem Ue8:q7 (fb2 x) ⟨3⟩=sl (!pd3 x) (.exit 4) (.next ⟨4⟩):=by
 have e:Z9 x=pd3 x/\oa7 x=true:=by unfold Z9 oa7;rw[Ue3 x hs];exact⟨rfl,rfl⟩
 have e0:(⟨x.nm,x.ou,x.inn,x.ho,x.li,x.ru,x.fo⟩:Tol)=x:=rfl;show Ia8 Stp.next Stp.exit Stp.fail (fb2 x) ⟨3⟩=_;simp only[Ia8,fb2,i8,G3,Qii,e0,e.1,e.2,g7]
include hs in
theorem kf0(h0:0<x.li.length):q7 (fb2 x) ⟨4⟩=sl (!Ec8 x) (.exit 5) (.next ⟨5⟩):=by
 have e:T5 x=Ec8 x/\fa2 x=true:=by unfold T5 fa2;rw[re3 x hs h0];exact⟨rfl,rfl⟩
 have e0:(⟨x.nm,x.ou,x.inn,x.ho,x.li,x.ru,x.fo⟩:Tol)=x:=rfl;show Ia9 Stp.next Stp.exit Stp.fail (fb2 x) ⟨4⟩=_;simp only[Ia9,fb2,i8,G3,Qii,e0,e.1,e.2,g7]
include hs in
theorem tf3(hsol:pd3 x=true):q7 (fb2 x) ⟨5⟩=sl (!Qd0 x) (.exit 6) (.next ⟨6⟩):=by
 have e:W6 x=Qd0 x/\ka6 x=true:=by unfold W6 ka6;rw[Ie0 x hs hsol];exact⟨rfl,rfl⟩
 have e0:(⟨x.nm,x.ou,x.inn,x.ho,x.li,x.ru,x.fo⟩:Tol)=x:=rfl;show Ja0 Stp.next Stp.exit Stp.fail (fb2 x) ⟨5⟩=_;simp only[Ja0,fb2,i8,G3,Qii,e0,e.1,e.2,g7]
theorem Bf3:q7 (fb2 x) ⟨6⟩=.exit 7:=rfl
include hs
theorem kf1:(lp (q7 (fb2 x)) ⟨0⟩).1=(bif !Qd1 x.nm then 1 else bif !Pd8 x then 2 else bif !Pd9 x then 3 else bif !pd3 x then 4 else bif !Ec8 x then 5 else bif !Qd0 x then 6 else 7):=by
 have go:∀(n fin:Nat),n<=6->(∀j,j<n->q7 (fb2 x) ⟨j⟩=.next ⟨j+1⟩)->q7 (fb2 x) ⟨n⟩=.exit fin->(lp (q7 (fb2 x)) ⟨0⟩).1=fin:=λn fin hn h hf=>by
  have e:=wb6 (step:=q7 (fb2 x)) (mk:=λj=>(⟨j⟩:i5)) n (by omega) h hf
  have e:lp (q7 (fb2 x)) ⟨0⟩=(fin,⟨n⟩):=e;rw[e]
 cases b0:Qd1 x.nm with
 |false =>
  refine go 0 1 (by omega) (λj hj=>?_) (by rw[Zd7 x,b0];rfl)
  omega
 |true =>
  cases b1:Pd8 x with
  |false =>
   refine go 1 2 (by omega) (λj hj=>?_) (by rw[re4 x hs,b1];rfl)
   match j,hj with
   |0,_=>rw[Zd7 x,b0];rfl
   |j+1,hj=>omega
  |true =>
   cases b2:Pd9 x with
   |false =>
    refine go 2 3 (by omega) (λj hj=>?_) (by rw[Ie1 x hs,b2];rfl)
    match j,hj with
    |0,_=>rw[Zd7 x,b0];rfl
    |1,_=>rw[re4 x hs,b1];rfl
    |j+2,hj=>omega
   |true =>
    cases b3:pd3 x with
    |false =>
     refine go 3 4 (by omega) (λj hj=>?_) (by rw[Ue8 x hs,b3];rfl)
     match j,hj with
     |0,_=>rw[Zd7 x,b0];rfl
     |1,_=>rw[re4 x hs,b1];rfl
     |2,_=>rw[Ie1 x hs,b2];rfl
     |j+3,hj=>omega
    |true =>
     have h0:0<x.li.length:=by
      unfold Pd8 at b1;simp only[Qas,decide_eq_true_eq,beq_iff_eq] at b1;omega
     cases b4:Ec8 x with
     |false =>
      refine go 4 5 (by omega) (λj hj=>?_) (by rw[kf0 x hs h0,b4];rfl)
      match j,hj with
      |0,_=>rw[Zd7 x,b0];rfl
      |1,_=>rw[re4 x hs,b1];rfl
      |2,_=>rw[Ie1 x hs,b2];rfl
      |3,_=>rw[Ue8 x hs,b3];rfl
      |j+4,hj=>omega
     |true =>
      cases b5:Qd0 x with
      |false =>
       refine go 5 6 (by omega) (λj hj=>?_) (by rw[tf3 x hs b3,b5];rfl)
       match j,hj with
       |0,_=>rw[Zd7 x,b0];rfl
       |1,_=>rw[re4 x hs,b1];rfl
       |2,_=>rw[Ie1 x hs,b2];rfl
       |3,_=>rw[Ue8 x hs,b3];rfl
       |4,_=>rw[kf0 x hs h0,b4];rfl
       |j+5,hj=>omega
      |true =>
       refine go 6 7 (by omega) (λj hj=>?_) (Bf3 x)
       match j,hj with
       |0,_=>rw[Zd7 x,b0];rfl
       |1,_=>rw[re4 x hs,b1];rfl
       |2,_=>rw[Ie1 x hs,b2];rfl
       |3,_=>rw[Ue8 x hs,b3];rfl
       |4,_=>rw[kf0 x hs h0,b4];rfl
       |5,_=>rw[tf3 x hs b3,b5];rfl
       |j+6,hj=>omega
theorem Ue9:Xa1 x=some (i (Zd6 x),[]):=by
 have e:=kf1 x hs;unfold fb2 at e;unfold Xa1;simp only[i8,j6,Qii,g7,e];unfold Zd6;cases Qd1 x.nm<;>cases Pd8 x<;>cases Pd9 x<;>cases pd3 x<;>cases Ec8 x<;>cases Qd0 x<;>rfl
theorem Wc6:Xa2 x=Zd6 x/\Xa3 x=true:=by
 unfold Xa2 Xa3;rw[Ue9 x hs];exact⟨rfl,rfl⟩
end
theorem Ie2(l:List Int)(u:Int)(hl:l.length<=1000000000):ca0 ⟨l,u⟩=⟨1,if l.any (λn=>decide (u<n)) then ((l.findIdx (λn=>decide (u<n)):Nat):Int) else -1⟩:=by
 have h:=qa7 (step:=K7 ⟨l,(l.length:Int),u⟩) (mk:=λj=>(⟨(j:Int)⟩:m9)) (c:=λn=>decide (u<n)) (u:=1) (fin:=2) tI l hl
  (λj hj=>by
   simp only[K7,R5,Int.toNat_natCast,ub7,ub6,D2 hj (by omega)]
   rw[bt (Da8 hj),bt (i9 hj)])
  (by simp only[K7,R5];rw[bf (oa2 (Qid _))]) 0 (Qbw _)
 rw[Qim] at h;unfold ca0 va4;simp only[i8,j6,Qii,g7];rw[show (⟨0⟩:m9)=⟨((0:Nat):Int)⟩ from rfl,h]
 split
 ·simp only[Qar];rfl
 ·rfl
def ixT(x:Tol)(y:Int):Int:=if x.li.any (λn=>decide (y<n)) then ((x.li.findIdx (λn=>decide (y<n)):Nat):Int) else -1
def grT(x:Tol)(y:Int):Int×Bool:=bif Zd6 x != 0 then (0,false) else bif decide (y<0) then (0,false) else (if 0>ixT x y then 0 else ixT x y,decide (ixT x y>=0))
theorem Ve0(x:Tol)(hs:SzT x)(y:Int):Xa4 x y=some (.tup [i (grT x y).1,b (grT x y).2],[]):=by
 have e0:(⟨x.nm,x.ou,x.inn,x.ho,x.li,x.ru,x.fo⟩:Tol)=x:=rfl;unfold Xa4;simp only[i8,G3,j6,Qii,e0,(Wc6 x hs).1,(Wc6 x hs).2,Ie2 x.li y (by have:=hs.li;omega),g7,Qiad]
 unfold grT;cases Zd6 x != 0 with
 |true=>rfl
 |false=>cases decide (y<0)<;>rfl
theorem Dd9(x:Tol)(hs:SzT x)(y:Int):Ja1 x y=grT x y/\Ja2 x y=true:=by
 unfold Ja1 Ja2;rw[Ve0 x hs y];exact⟨rfl,rfl⟩
theorem ec2(x:Tol)(hs:SzT x)(y z:Int)(h:((grT x y).2==decide (z>=0))=true)(h2:((grT x y).1==(if 0>z then 0 else z))=true):Ca0 x y z=true:=by
 have e0:(⟨x.nm,x.ou,x.inn,x.ho,x.li,x.ru,x.fo⟩:Tol)=x:=rfl;have e:Ga4 x y z=some (b true,[]):=by
  unfold Ga4;simp only[i8,G3,Qii,e0,(Dd9 x hs y).1,(Dd9 x hs y).2,g7,h,h2]
 unfold Ca0 wb1 wb2;rw[e];rfl
theorem Cb0(x:Tol)(hs:SzT x)(h:(Zd6 x==E13 x)=true):V2 x=true:=by
 unfold V2;rw[(Wc6 x hs).1,(Wc6 x hs).2,h];rfl
theorem kf2(x:Tol)(hs:SzT x)(hn:x.nm.size<=1000):vd0 x x=true:=by
 have hv:∀l:List V3,l.length<=1000000->S5 l l=true/\S6 l l=true:=λl hl=>⟨ge7 l (by omega),ge8 l (by omega)⟩
 have hou:=hv x.ou (hs.el _ (by simp))
 have hho:=hv x.ho (hs.el _ (by simp))
 have hfo:=hv x.fo (by have:=hs.fo;omega)
 have hl0:=hs.inn;have hl1:=hs.li;obtain⟨j0,h0⟩:=Jc0 (step:=za5 ⟨x.nm,x.ou,x.inn,x.ho,x.li,x.ru,x.fo,x.nm,x.ou,x.inn,x.ho,x.li,x.ru,x.fo⟩) (mk:=λj=>(⟨(j:Int)⟩:Ye7)) x.inn.length (λ_=>false) 1 2 (by omega)
  (λj hj=>by
   have hm:gL (tLs tV) x.inn j∈x.ou::x.ho::x.inn:=by simp only[Qbi];exact .inr (.inr (Qa8 (tLs tV) hj))
   have he:=hv _ (hs.el _ hm);simp only[za5,Xa8,Int.toNat_natCast,i8,G3,he.1,he.2,D2 hj (by omega)]
   rw[bt (Da8 hj),bt (i9 hj),bt (i9 hj)]
   rfl)
  (by simp only[za5,Xa8];rw[bf (oa2 (Qid _))])
 obtain⟨j1,h1⟩:=Jc0 (step:=za6 ⟨x.nm,x.ou,x.inn,x.ho,x.li,x.ru,x.fo,x.nm,x.ou,x.inn,x.ho,x.li,x.ru,x.fo⟩) (mk:=λj=>(⟨(j:Int)⟩:pa2)) x.li.length (λ_=>false) 1 2 (by omega)
  (λj hj=>by
   simp only[za6,Ya0,Int.toNat_natCast,D2 hj (by omega),bne_self_eq_false]
   rw[bt (Da8 hj),bt (i9 hj),bt (i9 hj)])
  (by simp only[za6,Ya0];rw[bf (oa2 (Qid _))])
 have any0:∀n,(List.range n).any (λ_=>false)=false:=λn=>by rw[Qbq];intro _ _ h;cases h
 rw[any0] at h0 h1;have h0:lp (za5 ⟨x.nm,x.ou,x.inn,x.ho,x.li,x.ru,x.fo,x.nm,x.ou,x.inn,x.ho,x.li,x.ru,x.fo⟩) ⟨0⟩=(2,⟨(j0:Int)⟩):=h0;have h1:lp (za6 ⟨x.nm,x.ou,x.inn,x.ho,x.li,x.ru,x.fo,x.nm,x.ou,x.inn,x.ho,x.li,x.ru,x.fo⟩) ⟨0⟩=(2,⟨(j1:Int)⟩):=h1;have e:wb3 x x=some (b true,[]):=by
  unfold wb3;simp only[i8,G3,j6,Qii,hou.1,hou.2,hho.1,hho.2,hfo.1,hfo.2,h0,h1,bne_self_eq_false,beq_self_eq_true,Bool.not_true,g7,Jb0,Qiad];rfl
 unfold vd0 qc9 rc0;rw[e];rfl
def cu(n:Int):List V3:=[⟨0,0,0⟩,⟨0,0,n⟩,⟨0,n,0⟩,⟨0,n,n⟩,⟨n,0,0⟩,⟨n,0,n⟩,⟨n,n,0⟩,⟨n,n,n⟩]
def exT(l:List Int)(y:List (List V3)):Tol:=⟨⟨#[99]⟩,cu 2,y,cu 2,l,0,[⟨0,0,-1⟩]⟩
theorem Ze4:pa0 2=cu 2/\T7 2=true:=⟨by kernel_rfl,by kernel_rfl⟩
theorem Ze5:pa0 1=cu 1/\T7 1=true:=⟨by kernel_rfl,by kernel_rfl⟩
theorem Ze6:pa0 3=cu 3/\T7 3=true:=⟨by kernel_rfl,by kernel_rfl⟩
theorem ex1:C4 [5] [cu 2]=exT [5] [cu 2]/\C5 [5] [cu 2]=true:=⟨by kernel_rfl,by kernel_rfl⟩
theorem ex2:C4 [5,9] [cu 2,cu 1]=exT [5,9] [cu 2,cu 1]/\C5 [5,9] [cu 2,cu 1]=true:=⟨by kernel_rfl,by kernel_rfl⟩
theorem ex3:C4 [0] [cu 2]=exT [0] [cu 2]/\C5 [0] [cu 2]=true:=⟨by kernel_rfl,by kernel_rfl⟩
theorem ex4:C4 [5,5] [cu 2,cu 1]=exT [5,5] [cu 2,cu 1]/\C5 [5,5] [cu 2,cu 1]=true:=⟨by kernel_rfl,by kernel_rfl⟩
theorem ex5:C4 [5,9] [cu 2,cu 3]=exT [5,9] [cu 2,cu 3]/\C5 [5,9] [cu 2,cu 3]=true:=⟨by kernel_rfl,by kernel_rfl⟩
theorem ex6:C4 [9] [cu 1]=exT [9] [cu 1]/\C5 [9] [cu 1]=true:=⟨by kernel_rfl,by kernel_rfl⟩
theorem szT{nm:ByteArray}{y:List (List V3)}{l:List Int}{r:Int}{f:List V3}(h1:y.length<=2)(h2:l.length<=2)(h3:f.length<=2)(h4:∀q∈y,q.length<=8):SzT ⟨nm,cu 2,y,cu 2,l,r,f⟩ :=
 ⟨by show y.length<=1000;omega,by show l.length<=1000;omega,by show f.length<=1000;omega,λq hq=>by
  simp only[Qbi] at hq
  rcases hq with rfl|rfl|hq
  ·show (8:Nat)<=1000000;omega
  ·show (8:Nat)<=1000000;omega
  ·have:=h4 q hq;omega⟩
theorem Ve1{n m:Int}:∀q∈[cu n,cu m],q.length<=8:=λq hq=>by
 simp only[Qbi,Qis,or_false] at hq
 rcases hq with rfl|rfl<;>exact Qaf 8
theorem vd2{n:Int}:∀q∈[cu n],q.length<=8:=λq hq=>by
 simp only[Qbi,Qis,or_false] at hq
 rcases hq with rfl;exact Qaf 8
theorem k1:V2 (exT [5] [cu 2])=true:=Cb0 _ (szT (by simp) (by simp) (by simp) vd2) (by kernel_rfl)
theorem k2:V2 ⟨⟨#[67]⟩,cu 2,[cu 2],cu 2,[5],0,[⟨0,0,-1⟩]⟩=true:=Cb0 _ (szT (by simp) (by simp) (by simp) vd2) (by kernel_rfl)
theorem k3:V2 ⟨⟨#[99]⟩,cu 2,[cu 2],cu 2,[5],0,[]⟩=true:=Cb0 _ (szT (by simp) (by simp) (by simp) vd2) (by kernel_rfl)
theorem k4:V2 ⟨⟨#[99]⟩,cu 2,[cu 2],cu 2,[5],3,[⟨0,0,-1⟩]⟩=true:=Cb0 _ (szT (by simp) (by simp) (by simp) vd2) (by kernel_rfl)
theorem k5:V2 (exT [0] [cu 2])=true:=Cb0 _ (szT (by simp) (by simp) (by simp) vd2) (by kernel_rfl)
theorem k6:V2 (exT [5,9] [cu 2,cu 1])=true:=Cb0 _ (szT (by simp) (by simp) (by simp) Ve1) (by kernel_rfl)
theorem k7:V2 (exT [5,5] [cu 2,cu 1])=true:=Cb0 _ (szT (by simp) (by simp) (by simp) Ve1) (by kernel_rfl)
theorem k8:V2 (exT [5,9] [cu 2,cu 3])=true:=Cb0 _ (szT (by simp) (by simp) (by simp) Ve1) (by kernel_rfl)
def aa0:Tol:=exT [5,9] [cu 2,cu 1]
theorem Lc7:SzT aa0:=szT (by simp) (by simp) (by simp) Ve1
theorem md2:Zd6 aa0=0:=by kernel_rfl
theorem gr1:Ca0 aa0 0 0=true:=ec2 _ Lc7 _ _ (by unfold grT;rw[md2];kernel_rfl) (by unfold grT;rw[md2];kernel_rfl)
theorem gr2:Ca0 aa0 4 0=true:=ec2 _ Lc7 _ _ (by unfold grT;rw[md2];kernel_rfl) (by unfold grT;rw[md2];kernel_rfl)
theorem gr3:Ca0 aa0 5 1=true:=ec2 _ Lc7 _ _ (by unfold grT;rw[md2];kernel_rfl) (by unfold grT;rw[md2];kernel_rfl)
theorem gr4:Ca0 aa0 9 (-1)=true:=ec2 _ Lc7 _ _ (by unfold grT;rw[md2];kernel_rfl) (by unfold grT;rw[md2];kernel_rfl)
theorem gr5:Ca0 aa0 (-1) (-1)=true:=ec2 _ Lc7 _ _ (by unfold grT;rw[md2];kernel_rfl) (by unfold grT;rw[md2];kernel_rfl)
theorem gr6:Ja1 aa0 6=(1,true)/\Ja2 aa0 6=true:=by
 have:=Dd9 aa0 Lc7 6
 refine⟨this.1.trans ?_,this.2⟩;unfold grT;rw[md2];kernel_rfl
def Ie3:Y3:=⟨1,1,λk=>(λk=>(tLs tV).row (gL (tLs tV) [cu 2,cu 1] k)) (1+k),1,⟨#[99]⟩,cu 2,[cu 2,cu 1],cu 2,[5,9],0,[⟨0,0,-1⟩],⟨#[]⟩⟩
def Ie4:Nat->L0
 |0=>⟨0,0,0,[]⟩
 |_=>⟨1,1,1,[[.tree 3 8 λk=>j9 (app [] (m8 (λk=>tV.row (gL tV (cu 1) k)) (List.range 8))) (0+k)]]⟩
theorem Ve2:lp (Ga3 Ie3) ⟨0,0,0,[]⟩=(2,Ie4 1) :=
 wb6 (step:=Ga3 Ie3) (mk:=Ie4) 1 (by omega) (λj hj=>by (rcases j with _ | j)<;>first | omega | kernel_rfl) (by kernel_rfl)
theorem kf3:∃o,fb1 aa0 6=o/\O8 (two r1T r1B) o=(exT [9] [cu 1],true)/\okO (two r1T r1B) o=true:=by
 have e0:(⟨aa0.nm,aa0.ou,aa0.inn,aa0.ho,aa0.li,aa0.ru,aa0.fo⟩:Tol)=aa0:=rfl;have e1:=Ve2;unfold Ie3 at e1;unfold fb1;simp only[i8,G3,j6,Qii,e0,gr6.1,gr6.2,g7];have e2:(lp (Ga3 ⟨1,aa0.inn.length-Int.toNat 1,λk=>(λk=>(tLs tV).row (gL (tLs tV) aa0.inn k)) (Int.toNat 1+k),((aa0.inn.length-Int.toNat 1:Nat):Int),aa0.nm,aa0.ou,aa0.inn,aa0.ho,aa0.li,aa0.ru,aa0.fo,⟨#[]⟩⟩) ⟨0,0,0,[]⟩)=(2,Ie4 1):=e1
 simp only[e2];exact⟨_,rfl,by kernel_rfl,by kernel_rfl⟩
theorem Ie5:oa8 aa0 6=(exT [9] [cu 1],true)/\Pd2 aa0 6=true:=by
 obtain⟨o,h1,h2,h3⟩:=kf3;have e1:oa8 aa0 6=(exT [9] [cu 1],true):=by unfold oa8;rw[h1];exact h2
 have e2:Bb6 aa0 6=true:=by unfold Bb6;rw[h1];exact h3
 refine⟨e1,?_⟩;unfold Pd2;rw[e1,e2];rfl
theorem kr1:wb4 1 2=true/\F4 1 2=(Ge8,md0,1,0):=by
 have:=Dd6 (r:=1) (h:=2) (by omega) (by omega) (by omega) (by omega)
 rw[Af9,Bf0] at this;refine⟨?_,this.1⟩;unfold wb4;rw[this.1,this.2];rfl
theorem kr2:wb4 5 1=true/\F4 5 1=(Te9,he7,1,0):=by
 have:=Dd6 (r:=5) (h:=1) (by omega) (by omega) (by omega) (by omega)
 rw[Bf1,Bf2] at this;refine⟨?_,this.1⟩;unfold wb4;rw[this.1,this.2];rfl
theorem kr3:wb4 9 1=true:=by
 have:=Pd5 (r:=9) (h:=1) (by omega)
 unfold wb4;rw[this.1,this.2];rfl
theorem kvr(l:List V3)(hl:l.length<=1000):Oc9 l l=true:=by unfold Oc9;rw[ge7 l (by omega),ge8 l (by omega)];rfl
theorem kv1:Oc9 Ge8 [⟨-1,0,0⟩,⟨-1,0,2⟩,⟨0,-1,0⟩,⟨0,-1,2⟩,⟨0,1,0⟩,⟨0,1,2⟩,⟨1,0,0⟩,⟨1,0,2⟩]=true:=kvr Ge8 (by simp[Ge8])
theorem kv2:Oc9 md0 [⟨-1,-1,0⟩,⟨-1,-1,2⟩,⟨-1,1,0⟩,⟨-1,1,2⟩,⟨1,-1,0⟩,⟨1,-1,2⟩,⟨1,1,0⟩,⟨1,1,2⟩]=true:=kvr md0 (by simp[md0])
theorem tf4:vd0 (exT [9] [cu 1]) (exT [9] [cu 1])=true:=kf2 _ (szT (by simp) (by simp) (by simp) vd2) (by show (1:Nat)<=1000;omega)
theorem Qd2:Ga5=some (b true,[]):=by
 have t2:(⟨(exT [5] [cu 2]).nm,(exT [5] [cu 2]).ou,(exT [5] [cu 2]).inn,(exT [5] [cu 2]).ho,(exT [5] [cu 2]).li,(exT [5] [cu 2]).ru,(exT [5] [cu 2]).fo⟩:Tol)=exT [5] [cu 2]:=rfl;have a2:=k2;have a3:=k3;have a4:=k4;unfold Ga5;simp only[i8,G3,Qii,Ze5.1,Ze5.2,Ze4.1,Ze4.2,Ze6.1,Ze6.2,ex1.1,ex1.2,ex2.1,ex2.2,ex3.1,ex3.2,ex4.1,ex4.2,ex5.1,ex5.2,ex6.1,ex6.2,g7];have c1:V2 ⟨(exT [5] [cu 2]).nm,(exT [5] [cu 2]).ou,(exT [5] [cu 2]).inn,(exT [5] [cu 2]).ho,(exT [5] [cu 2]).li,(exT [5] [cu 2]).ru,(exT [5] [cu 2]).fo⟩=true:=k1;have c2:V2 ⟨⟨#[67]⟩,(exT [5] [cu 2]).ou,(exT [5] [cu 2]).inn,(exT [5] [cu 2]).ho,(exT [5] [cu 2]).li,(exT [5] [cu 2]).ru,(exT [5] [cu 2]).fo⟩=true:=k2;have c3:V2 ⟨(exT [5] [cu 2]).nm,(exT [5] [cu 2]).ou,(exT [5] [cu 2]).inn,(exT [5] [cu 2]).ho,(exT [5] [cu 2]).li,(exT [5] [cu 2]).ru,[]⟩=true:=k3;have c4:V2 ⟨(exT [5] [cu 2]).nm,(exT [5] [cu 2]).ou,(exT [5] [cu 2]).inn,(exT [5] [cu 2]).ho,(exT [5] [cu 2]).li,3,(exT [5] [cu 2]).fo⟩=true:=k4;have c5:V2 ⟨(exT [0] [cu 2]).nm,(exT [0] [cu 2]).ou,(exT [0] [cu 2]).inn,(exT [0] [cu 2]).ho,(exT [0] [cu 2]).li,(exT [0] [cu 2]).ru,(exT [0] [cu 2]).fo⟩=true:=k5;have e6:(⟨(exT [5,9] [cu 2,cu 1]).nm,(exT [5,9] [cu 2,cu 1]).ou,(exT [5,9] [cu 2,cu 1]).inn,(exT [5,9] [cu 2,cu 1]).ho,(exT [5,9] [cu 2,cu 1]).li,(exT [5,9] [cu 2,cu 1]).ru,(exT [5,9] [cu 2,cu 1]).fo⟩:Tol)=aa0:=rfl;have c6:V2 aa0=true:=k6;have c7:V2 ⟨(exT [5,5] [cu 2,cu 1]).nm,(exT [5,5] [cu 2,cu 1]).ou,(exT [5,5] [cu 2,cu 1]).inn,(exT [5,5] [cu 2,cu 1]).ho,(exT [5,5] [cu 2,cu 1]).li,(exT [5,5] [cu 2,cu 1]).ru,(exT [5,5] [cu 2,cu 1]).fo⟩=true:=k7;have c8:V2 ⟨(exT [5,9] [cu 2,cu 3]).nm,(exT [5,9] [cu 2,cu 3]).ou,(exT [5,9] [cu 2,cu 3]).inn,(exT [5,9] [cu 2,cu 3]).ho,(exT [5,9] [cu 2,cu 3]).li,(exT [5,9] [cu 2,cu 3]).ru,(exT [5,9] [cu 2,cu 3]).fo⟩=true:=k8;have e9:(⟨(exT [9] [cu 1]).nm,(exT [9] [cu 1]).ou,(exT [9] [cu 1]).inn,(exT [9] [cu 1]).ho,(exT [9] [cu 1]).li,(exT [9] [cu 1]).ru,(exT [9] [cu 1]).fo⟩:Tol)=exT [9] [cu 1]:=rfl;simp only[c1,c2,c3,c4,c5,e6,c6,c7,c8,g7,gr1,gr2,gr3,gr4,gr5,Ie5.1,Ie5.2,kr1.1,kr1.2,kr2.1,kr2.2,kr3,kv1,kv2,e9,tf4];show (_:ROq)=some (b true,[]);rfl
theorem Zd8:Ya1=true:=by unfold Ya1;rw[Qd2];rfl
theorem Zd9:Ya2=true:=by unfold Ya2;rw[Qd2];rfl
theorem re5{l:List V3}(hc:X3 l=0){z:V3}(hz:inV z=true)(hf:∀p∈F0 l,dot p.n z<=p.b)(n:V3)(b:Int)(hv:∀v∈l,dot n v<=b):dot n z<=b:=by
 obtain⟨_,hl,h4⟩:=U0 hc;have hfacs:=Bd4 hl λp hp=>(E9 hl p).2 hp
 have hall:∀p∈F0 l++ws,∀v∈l,dot p.n v<=p.b:=λp hp=>by
  rcases Qiai.1 hp with hp|hp
  ·exact ((E9 hl p).1 hp).hd
  ·exact Dd4 hl p hp
 have hrm:∀(a:Pln) (v:V3),rmZ a ⟨v.x,v.y,v.z,1⟩=a.b-dot a.n v:=λa v=>by simp only[rmZ,dot];omega
 have hI:Inr (F0 l++ws) ⟨z.x,z.y,z.z,1⟩:=⟨by show (0:Int)<1;omega,λp hp=>by
  rw[hrm]
  rcases Qiai.1 hp with hp|hp
  ·have:=hf p hp;omega
  ·have:=Dd4 (l:=[z]) (by simp[hz]) p hp z (by simp)
   omega⟩
 have key:=ma9 (Xd7 (F0 l)) (h:=⟨n,b⟩) (λy hy=>by
  obtain⟨v,hvl,he,hs⟩:=fe6 h4 hfacs hall hy;have h1:=hv v hvl;have h2:=he.rm ⟨n,b⟩;rw[hrm] at h2;have hw:=hy.w;have h3:0<=(b-dot n v)*y.pw:=Qic (by omega) (by omega)
  have h4:rmZ ⟨n,b⟩ y*1=(b-dot n v)*y.pw:=h2
  omega) hI
 rw[hrm] at key;have key:0<=b-dot n z:=key;omega
theorem Qd3{l:List V3}(hc:X3 l=0):X3 (Ea8 (F0 l) l)=0:=by
 obtain⟨h48,hl,h4⟩:=U0 hc;have h1:(Ea8 (F0 l) l).length<=l.length:=wb5 ((Jc3 l).filter _) λv hv=>db1 hl h4 hv
 exact (ld9 (by omega) (ge9 hl h4)).1 (Te1 hl h4)
section
variable{r h:Int}(h1:1<=r)(h8:r<=8)(k1:1<=h)(k2:h<=12)
include h1 h8 k1 k2
theorem pb6:(E0 (da8 r h)).1.length<=16/\8<=(E0 (da8 r h)).1.length/\X3 (E0 (da8 r h)).1=0/\F0 (E0 (da8 r h)).1=F0 (da8 r h):=by
 have hb:=abR h1 h8;have hc:=ec0 h1 h8 k1 k2;obtain⟨_,hl,hs⟩:=U0 hc;refine⟨wb5 (Ga7 _).1 λv hv=>((Ga7 _).2.2 v hv).2,sf6 (r:=r) (b:=bR r) (h:=h) (by omega) (by omega) (by omega) λv hv=>(Pd6 h1 h8 k1 k2 v).2 ?_,?_,?_⟩
 ·simp only[Qbi,Qis,or_false] at hv
  rcases hv with rfl|rfl|rfl|rfl|rfl|rfl|rfl|rfl<;>simp[Oct]
 ·rw[Dd8 h1 h8 k1 k2];exact Qd3 hc
 ·rw[Dd8 h1 h8 k1 k2];exact Fe8 hl hs
theorem md3:(E0 (inA r h)).1.length<=32/\8<=(E0 (inA r h)).1.length/\X3 (E0 (inA r h)).1=0/\F0 (E0 (inA r h)).1=F0 (inA r h):=by
 have hb:=abR h1 h8;have hc:=hc9 h1 h8 k1 k2;obtain⟨_,hl,hs⟩:=U0 hc;refine⟨wb5 (Ga7 _).1 λv hv=>((Ga7 _).2.2 v hv).2,jf0 (r:=r) (h:=h) (by omega) (by omega) λv hv=>(Te8 h1 h8 k1 k2 v).2 ?_,?_,?_⟩
 ·simp only[Qbi,Qis,or_false] at hv
  rcases hv with rfl|rfl|rfl|rfl|rfl|rfl|rfl|rfl<;>simp[Oct]
 ·rw[Zd2 h1 h8 k1 k2];exact Qd3 hc
 ·rw[Zd2 h1 h8 k1 k2];exact Fe8 hl hs
theorem Ie6{v:V3}(hv:v∈inA r h):v.x*v.x+v.y*v.y<=r*r/\(v.z=0\/v.z=h):=by
 have hb:=abR h1 h8;have q:∀(b c:Int) (u:V3),Oct b c h u->u.x*u.x+u.y*u.y=b*b+c*c:=λb c u hu=>by
  rcases hu.1 with⟨a|a,d|d⟩|⟨a|a,d|d⟩<;>rw[a,d]<;>grind
 rcases (rc2 h1 h8 k1 k2 v).1 hv with hv|hv
 ·exact⟨by rw[q _ _ _ hv];omega,hv.2⟩
 ·exact⟨by rw[q _ _ _ hv];omega,hv.2⟩
theorem Ve3{v:V3}(hv:v∈(E0 (da8 r h)).1):v.x*v.x+v.y*v.y=r*r+bR r*bR r/\(v.z=0\/v.z=h):=by
 have hu:=(Pd6 h1 h8 k1 k2 v).1 hv;exact⟨by rcases hu.1 with⟨a | a,c | c⟩ | ⟨a | a,c | c⟩<;>rw[a,c]<;>grind,hu.2⟩
theorem Ie7{p:Pln}(hp:p∈F0 (E0 (da8 r h)).1):(p.n.z=0/\0<=p.b/\r*r*(p.n.x*p.n.x+p.n.y*p.n.y)<=p.b*p.b)\/(p.n.x=0/\p.n.y=0/\((p.n.z=1/\p.b=h)\/(p.n.z=-1/\p.b=0))):=by
 have hb:=abR h1 h8;rw[(pb6 h1 h8 k1 k2).2.2.2,E9 (Bc0 h1 h8 k1 k2)] at hp;exact vd1 (by omega) (by omega) hb.2.2.2.2.2.2.1 (by omega) (ob9 h1 h8 k1 k2) hp
theorem Ve4:6<=(F0 (E0 (da8 r h)).1).length:=by
 have hb:=abR h1 h8;refine jf1 (r:=r) (h:=h) λp hp=>?_
 rw[(pb6 h1 h8 k1 k2).2.2.2,E9 (Bc0 h1 h8 k1 k2)];exact Te5 (b:=bR r) (by omega) (by omega) (by omega) (by omega) (by omega) (ob9 h1 h8 k1 k2) p hp
theorem Ve5{v:V3}(hv:v.x*v.x+v.y*v.y<=r*r)(z0:0<=v.z)(z1:v.z<=h):ec1 (E0 (da8 r h)).1 v=true:=by
 have hb:=abR h1 h8;refine Bc3.2 λp hp=>?_
 rw[(pb6 h1 h8 k1 k2).2.2.2,E9 (Bc0 h1 h8 k1 k2)] at hp;exact if9 (by omega) (by omega) hb.2.2.2.2.2.2.1 (by omega) (ob9 h1 h8 k1 k2) hv z0 z1 hp
theorem ae0{v:V3}(hi:inV v=true)(hh:ec1 (E0 (inA r h)).1 v=true):v.x*v.x+v.y*v.y<=r*r/\v.z<=h:=by
 have q:=Bc3.1 hh;rw[(md3 h1 h8 k1 k2).2.2.2] at q;refine qe6 (l:=inA r h) (by omega) (λw hw=>?_) λn b hb=>re5 (hc9 h1 h8 k1 k2) hi q n b hb
 have:=Ie6 h1 h8 k1 k2 hw
 exact⟨this.1,by omega⟩
end
end Go.Ev.Ce
