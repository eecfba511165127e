/- Own work: a part of the proof. -/
import Derived.Test.YtlccibobknidjaaGreatEvDG
import Derived.Test.YtlccibobknidjaaGreatEvSp3
set_option linter.unusedVariables false
set_option linter.unusedSimpArgs false
set_option linter.unnecessarySimpa false
set_option linter.unusedSectionVars false
section
namespace Go.Ev.Ce
open Go Go.Ev Go.Ev.L Go.Proofs
set_option maxRecDepth 100000
noncomputable def ma3:List (Nat×Sum):=[(216,ya5)]
theorem pb9:j7 prog G ma3:=⟨Fb0,trivial⟩
structure L3 where
 ra1:List (List Pln)
 Dc7:List (List Pln)
 Ka8:Int
structure p6 where
 is3:Int
 R9:Int
noncomputable def lb8 (p:L3) (s:p6):St:=⟨((eL (tLs tP) p.ra1)::(.unk::(.unk::((i s.is3)::(ra 5 ((eL (tLs tP) p.Dc7)::((i p.Ka8)::((i s.R9)::(ra 24 []))))))))),[]⟩
noncomputable def H8 {α:Type} (k:p6→α) (e:Nat→α) (z:α) (p:L3) (s:p6):α:=(sl (decide (s.R9 < p.Ka8)) (sl (inB s.R9 (List.length p.Dc7)) (sl (decide ((W (s.is3+(↑(List.length (gL (tLs tP) p.Dc7 s.R9.toNat)):Int))) < 0)) z (k ⟨(W (s.is3+(↑(List.length (gL (tLs tP) p.Dc7 s.R9.toNat)):Int))),(W (s.R9+1))⟩)) z) (e 1))
noncomputable def D8 (p:L3) (s:p6):Stp p6:=H8 .next .exit .fail p s
noncomputable def ka3:Lo L3 p6:=⟨En ma3,0,Nd2,[1,1,0,1,4,4],[0,3,9,10,11],.p,[⟨((.s (.c 1 (nL (tLs tP))))::((.s (.o .unk))::((.s (.o .unk))::((.s (.o (.int .i64)))::(ru2 5 ((.s (.c 1 (nL (tLs tP))))::((.s (.o (.int .i64)))::((.s (.o (.int .i64)))::(ru2 24 []))))))))),[],fun a H=>(⟨(rL (tLs tP) (slT a 0)),(rL (tLs tP) (slT a 9)),(toI (slT a 10))⟩,⟨(toI (slT a 3)),(toI (slT a 11))⟩)⟩],D8,[(some 0,fun p s=>⟨((eL (tLs tP) p.ra1)::(.unk::(.unk::((i s.is3)::(ra 5 ((eL (tLs tP) p.Dc7)::((i p.Ka8)::((i s.R9)::((b (decide (s.R9 < p.Ka8)))::(ra 23 [])))))))))),[]⟩)],lb8⟩
theorem lb9:ka3.OkM:=Lo.okM [] (by kernel_rfl) .nil rfl (.cons (fun a H=>by kernel_rfl) .nil) fun p s=>(.of @H8 (fun F _ _ _ _ _=>by unfold H8;(repeat' apply l7 (f:=F))<;>rfl) (by kernel_rfl))
structure p7 where
 ia6:List (List Pln)
 od3:Int
structure j9 where
 ph:Nat
 gb9:Int
 ns6:Nat
 eh0:List (List b7)
noncomputable def fb7 (p:p7) (s:j9):St:=⟨(ra 6 ((.v (.slice none 0 0))::(ra 18 ((eL (tLs tP) p.ia6)::((i p.od3)::((i s.gb9)::(ra 8 []))))))),[]⟩
noncomputable def fb8 (p:p7) (s:j9):St:=⟨(ra 6 ((.sl 0 0 s.ns6 0)::(ra 18 ((eL (tLs tP) p.ia6)::((i p.od3)::((i s.gb9)::(ra 8 []))))))),[⟨50,4,s.eh0,true,false,0⟩]⟩
noncomputable def mb0 (p:p7) (s:j9):St:=(sel (Nat.beq s.ph 1) (fb8 p s) (fb7 p s))
noncomputable def w5 {α:Type} (k:j9→α) (e:Nat→α) (z:α) (p:p7) (s:j9):α:=(sl (decide (s.gb9 < p.od3)) (sl (inB s.gb9 (List.length p.ia6)) (sl (Nat.beq (len (l8 (fun k=>(tP).row (gL tP (gL (tLs tP) p.ia6 s.gb9.toNat) k)) (List.range (List.length (gL (tLs tP) p.ia6 s.gb9.toNat))))) 0) (k ⟨0,(W (s.gb9+1)),0,[]⟩) z) z) (e 1))
noncomputable def w6 {α:Type} (k:j9→α) (e:Nat→α) (z:α) (p:p7) (s:j9):α:=(sl (decide (s.gb9 < p.od3)) (sl (inB s.gb9 (List.length p.ia6)) (sl (Nat.ble (s.ns6+(len (l8 (fun k=>(tP).row (gL tP (gL (tLs tP) p.ia6 s.gb9.toNat) k)) (List.range (List.length (gL (tLs tP) p.ia6 s.gb9.toNat)))))) (len s.eh0)) (k ⟨1,(W (s.gb9+1)),(s.ns6+(len (l8 (fun k=>(tP).row (gL tP (gL (tLs tP) p.ia6 s.gb9.toNat) k)) (List.range (List.length (gL (tLs tP) p.ia6 s.gb9.toNat)))))),(app (C7 s.eh0 s.ns6) (app (l8 (fun k=>(tP).row (gL tP (gL (tLs tP) p.ia6 s.gb9.toNat) k)) (List.range (List.length (gL (tLs tP) p.ia6 s.gb9.toNat)))) (f0 s.eh0 (s.ns6+(len (l8 (fun k=>(tP).row (gL tP (gL (tLs tP) p.ia6 s.gb9.toNat) k)) (List.range (List.length (gL (tLs tP) p.ia6 s.gb9.toNat)))))))))⟩) z) z) (e 2))
noncomputable def z7 (p:p7) (s:j9):Stp j9:=(sel (Nat.beq s.ph 1) (w6 .next .exit .fail p s) (w5 .next .exit .fail p s))
noncomputable def ka4:Lo p7 j9:=⟨En ma3,0,Nd2,[1,1,1,1,0,1,4,4],[6,25,26,27],.p,[⟨(ru2 6 ((.s (.o .nil))::(ru2 18 ((.s (.c 1 (nL (tLs tP))))::((.s (.o (.int .i64)))::((.s (.o (.int .i64)))::(ru2 8 []))))))),[],fun a H=>(⟨(rL (tLs tP) (slT a 25)),(toI (slT a 26))⟩,⟨0,(toI (slT a 27)),0,[]⟩)⟩,⟨(ru2 6 ((.s (.o (.sl 0 0 (some 0) none)))::(ru2 18 ((.s (.c 1 (nL (tLs tP))))::((.s (.o (.int .i64)))::((.s (.o (.int .i64)))::(ru2 8 []))))))),[⟨50,4,true,none⟩],fun a H=>(⟨(rL (tLs tP) (slT a 25)),(toI (slT a 26))⟩,⟨1,(toI (slT a 27)),(slN (slT a 6)),(elT H 0)⟩)⟩],z7,[(some 2,fun p s=>⟨(ra 6 ((.v (.slice none 0 0))::(ra 18 ((eL (tLs tP) p.ia6)::((i p.od3)::((i s.gb9)::((b (decide (s.gb9 < p.od3)))::(ra 7 [])))))))),[]⟩),(some 2,fun p s=>⟨(ra 6 ((.sl 0 0 s.ns6 0)::(ra 18 ((eL (tLs tP) p.ia6)::((i p.od3)::((i s.gb9)::((b (decide (s.gb9 < p.od3)))::(ra 7 [])))))))),[⟨50,4,s.eh0,true,false,0⟩]⟩)],mb0⟩
theorem mb1:ka4.OkM:=Lo.okM [] (by kernel_rfl) .nil rfl (.cons (fun a H=>by kernel_rfl) (.cons (fun a H=>by kernel_rfl) .nil)) fun p s=>(.sel (Nat.beq s.ph 1) (.of @w6 (fun F _ _ _ _ _=>by unfold w6;(repeat' apply l7 (f:=F))<;>rfl) (by kernel_rfl)) (.of @w5 (fun F _ _ _ _ _=>by unfold w5;(repeat' apply l7 (f:=F))<;>rfl) (by kernel_rfl)))
structure da0 where
 alt:Nat
 ns0:Nat
 eh0:List (List b7)
noncomputable def I6 {α:Type} (kk:da0→α) (x:List (List Pln)):α:=let t1:=(lp (D8 (⟨(rt (tLs tP) x),(rt (tLs tP) x),(↑(List.length x):Int)⟩:L3)) (⟨0,0⟩:p6));let t2:=(lp (z7 (⟨(rt (tLs tP) (rt (tLs tP) x)),(↑(List.length (rt (tLs tP) x)):Int)⟩:p7)) (⟨0,0,0,[]⟩:j9));let t3:=(lp (z7 (⟨(rt (tLs tP) (rt (tLs tP) x)),(↑(List.length (rt (tLs tP) x)):Int)⟩:p7)) (⟨1,0,0,(List.replicate t1.2.is3.toNat Wc1)⟩:j9));(sl ((cnE (tLs tP) x)&&((cnE (tLs tP) x)&&true)) (sl (Nat.beq t1.1 1) (sl (t1.2.is3==0) (sl ((cnE (tLs tP) (rt (tLs tP) x))&&true) (sl (Nat.beq t2.1 1) (kk ⟨1,0,[]⟩) (sl (Nat.beq t2.1 2) (kk ⟨2,t2.2.ns6,t2.2.eh0⟩) (kk ⟨0,0,[]⟩))) (kk ⟨0,0,[]⟩)) (sl (Bool.and (decide (0 < t1.2.is3)) (Nat.ble (t1.2.is3.toNat*32) room)) (sl ((cnE (tLs tP) (rt (tLs tP) x))&&true) (sl (Nat.beq t3.1 1) (kk ⟨1,0,[]⟩) (sl (Nat.beq t3.1 2) (kk ⟨2,t3.2.ns6,t3.2.eh0⟩) (kk ⟨0,0,[]⟩))) (kk ⟨0,0,[]⟩)) (kk ⟨0,0,[]⟩))) (kk ⟨0,0,[]⟩)) (kk ⟨0,0,[]⟩))
noncomputable def da1 (x:List (List Pln)):da0:=I6 (fun r=>r) x
noncomputable def ma4 (r:da0):DT (b7×List b8):=(.ite (Nat.beq r.alt 1) (.ret ((.v (.slice none 0 0)),[])) (.ite (Nat.beq r.alt 2) (.ret ((.sl 0 0 r.ns0 0),[⟨50,4,r.eh0,true,false,0⟩])) .fail))
theorem yb8 {α β:Type} (F:α→β) (kk:da0→α) (x:List (List Pln)):F (I6 kk x)=I6 (fun r=>F (kk r)) x:=by unfold I6;(repeat' apply l7 (f:=F))<;>rfl
noncomputable def La0:Sum:=da3 (V2 (tLs tP)) (fun x=>ma4 (da1 x))
theorem ub9:g7 prog G 169 La0:=Vb2 (bd Ce9 pb9) fun x=>fe3 (.s .p (.s .p (.s (.s .p (.b (.u ka3.lsM))) (.s .p (.s (.s .p (.b (.u ka4.lsM))) .p))))) [ka3.prM,ka4.prM] (by kernel_rfl) (.cons lb9 (.cons mb1 .nil)) (Eq.trans (b:=I6 (fun r=>(ma4 r).run) x) (by kernel_rfl) (yb8 (fun r=>(ma4 r).run) (fun r=>r) x).symm)
noncomputable def td7:List (Nat×Sum):=[(169,La0)]
theorem jd0:j7 prog G td7:=⟨ub9,trivial⟩
noncomputable def qb0 (x:List (List Pln)):Option (b7×List b8):=let t1:=(da1 (rt (tLs tP) x));(sl (okE (tLs tP) x) (sl (Nat.beq t1.alt 1) (some ((.sl 0 0 6 0),[⟨50,4,[[(i 1),(i 0),(i 0),(i 24)],[(i (-1)),(i 0),(i 0),(i 24)],[(i 0),(i 1),(i 0),(i 24)],[(i 0),(i (-1)),(i 0),(i 24)],[(i 0),(i 0),(i 1),(i 24)],[(i 0),(i 0),(i (-1)),(i 24)]],true,false,0⟩])) (sl (Nat.beq t1.alt 2) (sl (Nat.beq t1.ns0 (len t1.eh0)&&Nat.ble ((t1.ns0+1)*32) room) (sl (Nat.beq (t1.ns0+1) (len (app t1.eh0 [[(i 1),(i 0),(i 0),(i 24)]]))&&Nat.ble (((t1.ns0+1)+1)*32) room) (sl (Nat.beq ((t1.ns0+1)+1) (len (app (app t1.eh0 [[(i 1),(i 0),(i 0),(i 24)]]) [[(i (-1)),(i 0),(i 0),(i 24)]]))&&Nat.ble ((((t1.ns0+1)+1)+1)*32) room) (sl (Nat.beq (((t1.ns0+1)+1)+1) (len (app (app (app t1.eh0 [[(i 1),(i 0),(i 0),(i 24)]]) [[(i (-1)),(i 0),(i 0),(i 24)]]) [[(i 0),(i 1),(i 0),(i 24)]]))&&Nat.ble (((((t1.ns0+1)+1)+1)+1)*32) room) (sl (Nat.beq ((((t1.ns0+1)+1)+1)+1) (len (app (app (app (app t1.eh0 [[(i 1),(i 0),(i 0),(i 24)]]) [[(i (-1)),(i 0),(i 0),(i 24)]]) [[(i 0),(i 1),(i 0),(i 24)]]) [[(i 0),(i (-1)),(i 0),(i 24)]]))&&Nat.ble ((((((t1.ns0+1)+1)+1)+1)+1)*32) room) (sl (Nat.beq (((((t1.ns0+1)+1)+1)+1)+1) (len (app (app (app (app (app t1.eh0 [[(i 1),(i 0),(i 0),(i 24)]]) [[(i (-1)),(i 0),(i 0),(i 24)]]) [[(i 0),(i 1),(i 0),(i 24)]]) [[(i 0),(i (-1)),(i 0),(i 24)]]) [[(i 0),(i 0),(i 1),(i 24)]]))&&Nat.ble (((((((t1.ns0+1)+1)+1)+1)+1)+1)*32) room) (some ((.sl 0 0 ((((((t1.ns0+1)+1)+1)+1)+1)+1) 0),[⟨50,4,(app (app (app (app (app (app t1.eh0 [[(i 1),(i 0),(i 0),(i 24)]]) [[(i (-1)),(i 0),(i 0),(i 24)]]) [[(i 0),(i 1),(i 0),(i 24)]]) [[(i 0),(i (-1)),(i 0),(i 24)]]) [[(i 0),(i 0),(i 1),(i 24)]]) [[(i 0),(i 0),(i (-1)),(i 24)]]),true,false,0⟩])) none) none) none) none) none) none) none)) none)
noncomputable def Ma3 (x:List (List Pln)):List Pln:=I5 (one (r1L tP)) (qb0 x)
noncomputable def Ma4 (x:List (List Pln)):Bool:=okO (one (r1L tP)) (qb0 x)
noncomputable def Jb6:Sum:=da3 (V2 (tLs tP)) (fun x=>.guard (Ma4 x) (.ret ((one (r1L tP)).enc (Ma3 x),[])))
theorem Rb1:g7 prog G 88 Jb6:=wa2 (bd b88 jd0) (one (r1L tP)) (o:=qb0) fun x=>r4 (by kernel_rfl)
structure P6 where
 ra1:List (List Pln)
noncomputable def ta6:List (Nat×Sum):=[(168,Eb9)]
theorem Xa0:j7 prog G ta6:=⟨nc3,trivial⟩
structure E8 where
 ra1:List (List Pln)
 is7:Int
structure n5 where
 is8:Int
noncomputable def Ua0 (p:E8) (s:n5):St:=⟨((eL (tLs tP) p.ra1)::((.fn 168 [])::(ra 5 ((i p.is7)::((i s.is8)::(ra 10 [])))))),[]⟩
noncomputable def A9 {α:Type} (k:n5→α) (e:Nat→α) (z:α) (p:E8) (s:n5):α:=let t1:=(Ha9 (rt tP (gL (tLs tP) p.ra1 s.is8.toNat)));(sl (decide (s.is8 < p.is7)) (sl (inB s.is8 (List.length p.ra1)) (sl (okE tP (gL (tLs tP) p.ra1 s.is8.toNat)) (sl (Ia0 (rt tP (gL (tLs tP) p.ra1 s.is8.toNat))) (sl t1 (e 1) (k ⟨(W (s.is8+1))⟩)) z) z) z) (e 2))
noncomputable def D3 (p:E8) (s:n5):Stp n5:=A9 .next .exit .fail p s
noncomputable def Y7:Lo E8 n5:=⟨En ta6,0,ee9,[1,0,1,4,4],[0,1,7,8],.p,[⟨((.s (.c 1 (nL (tLs tP))))::((.s (.o (.fn 168)))::(ru2 5 ((.s (.o (.int .i64)))::((.s (.o (.int .i64)))::(ru2 10 [])))))),[],fun a H=>(⟨(rL (tLs tP) (slT a 0)),(toI (slT a 7))⟩,⟨(toI (slT a 8))⟩)⟩],D3,[(none,fun p s=>⟨[(i s.is8)],[]⟩),(some 0,fun p s=>⟨((eL (tLs tP) p.ra1)::((.fn 168 [])::(ra 5 ((i p.is7)::((i s.is8)::((b (decide (s.is8 < p.is7)))::(ra 9 []))))))),[]⟩)],Ua0⟩
theorem Ua1:Y7.Ok:=Lo.ok [] (by kernel_rfl) .nil rfl (.cons (fun a H=>by kernel_rfl) .nil) fun p s=>(.of @A9 (fun F _ _ _ _ _=>by unfold A9;(repeat' apply l7 (f:=F))<;>rfl) (by kernel_rfl))
structure P7 where
 alt:Nat
 is0:Int
noncomputable def B7 {α:Type} (kk:P7→α) (x:P6):α:=let t1:=(lp (D3 (⟨(rt (tLs tP) x.ra1),(↑(List.length x.ra1):Int)⟩:E8)) (⟨0⟩:n5));(sl ((cnE (tLs tP) x.ra1)&&true) (sl (Nat.beq t1.1 1) (kk ⟨1,t1.2.is8⟩) (sl (Nat.beq t1.1 2) (kk ⟨1,(-1)⟩) (kk ⟨0,0⟩))) (kk ⟨0,0⟩))
noncomputable def da5 (x:P6):P7:=B7 (fun r=>r) x
noncomputable def ba5 (x:P6) (r:P7):DT (b7×List b8):=(.ite (Nat.beq r.alt 1) (.ret ((i r.is0),[])) .fail)
theorem fb9 {α β:Type} (F:α→β) (kk:P7→α) (x:P6):F (B7 kk x)=B7 (fun r=>F (kk r)) x:=by unfold B7;(repeat' apply l7 (f:=F))<;>rfl
noncomputable def xa4:Sum:=ab2 ⟨[(.s (.c 1 (nL (tLs tP)))),(.s (.o (.fn 168)))],[],fun a H=>(⟨(rL (tLs tP) (slT a 0))⟩,())⟩ (fun x=>ba5 x (da5 x))
theorem cb3:g7 prog G 207 xa4:=O8 (enc:=fun x=>⟨[(eL (tLs tP) x.ra1),(.fn 168 [])],[]⟩) (fun a H=>by kernel_rfl) (bd Ee6 Xa0) fun x=>ya4 (.s .p (.s (.s .p (.b (.u Y7.ls))) .p)) [Y7.pr] (by kernel_rfl) (.cons Ua1 .nil) (Eq.trans (b:=B7 (fun r=>(ba5 x r).run) x) (by kernel_rfl) (fb9 (fun r=>(ba5 x r).run) (fun r=>r) x).symm)
structure J8 where
 ra1:List (List Pln)
noncomputable def Qa3:List (Nat×Sum):=[(207,xa4)]
theorem Ma5:j7 prog G Qa3:=⟨cb3,trivial⟩
structure J9 where
 alt:Nat
 bs0:Bool
noncomputable def y5 {α:Type} (kk:J9→α) (x:J8):α:=let t1:=(da5 ⟨(rt (tLs tP) x.ra1)⟩);(sl ((cnE (tLs tP) x.ra1)&&true) (sl (Nat.beq t1.alt 1) (kk ⟨1,(decide (t1.is0≥0))⟩) (kk ⟨0,false⟩)) (kk ⟨0,false⟩))
noncomputable def W7 (x:J8):J9:=y5 (fun r=>r) x
noncomputable def U1 (x:J8) (r:J9):DT (b7×List b8):=(.ite (Nat.beq r.alt 1) (.ret ((b r.bs0),[])) .fail)
theorem Ua2 {α β:Type} (F:α→β) (kk:J9→α) (x:J8):F (y5 kk x)=y5 (fun r=>F (kk r)) x:=by unfold y5;(repeat' apply l7 (f:=F))<;>rfl
noncomputable def na9:Sum:=ab2 ⟨[(.s (.c 1 (nL (tLs tP)))),(.s (.o (.fn 168)))],[],fun a H=>(⟨(rL (tLs tP) (slT a 0))⟩,())⟩ (fun x=>U1 x (W7 x))
theorem Qa4:g7 prog G 157 na9:=O8 (enc:=fun x=>⟨[(eL (tLs tP) x.ra1),(.fn 168 [])],[]⟩) (fun a H=>by kernel_rfl) (bd Ce3 Ma5) fun x=>r4 (Eq.trans (b:=y5 (fun r=>(U1 x r).run) x) (by kernel_rfl) (Ua2 (fun r=>(U1 x r).run) (fun r=>r) x).symm)
noncomputable def Hc3:List (Nat×Sum):=[(157,na9)]
theorem yc2:j7 prog G Hc3:=⟨Qa4,trivial⟩
noncomputable def Ia1 (x:List (List Pln)):Option (b7×List b8):=let t1:=(W7 ⟨(rt (tLs tP) x)⟩);(sl ((cnE (tLs tP) x)&&true) (sl (Nat.beq t1.alt 1) (some ((b (!t1.bs0)),[])) none) none)
noncomputable def Y8 (x:List (List Pln)):Bool:=I5 (one r1B) (Ia1 x)
noncomputable def Y9 (x:List (List Pln)):Bool:=okO (one r1B) (Ia1 x)
noncomputable def wa8:Sum:=da3 (V2 (tLs tP)) (fun x=>.guard (Y9 x) (.ret ((one r1B).enc (Y8 x),[])))
theorem Aa1:g7 prog G 87 wa8:=wa2 (bd b87 yc2) (one r1B) (o:=Ia1) fun x=>r4 (by kernel_rfl)
structure Z0 where
 la3:Int
 la4:Int
 la5:Int
 eb6:Int
 i5:Int
 c7:Int
 i6:Int
 d9:Int
noncomputable def qb1:List (Nat×Sum):=[(102,jb0)]
theorem mb2:j7 prog G qb1:=⟨ub3,trivial⟩
structure O0 where
 bs0:Bool
noncomputable def O1 {α:Type} (kk:O0→α) (x:Z0):α:=let t1:=(la9 (⟨(⟨x.i5,x.c7,x.i6⟩:V3),x.d9⟩:Pln) (⟨x.la3,x.la4,x.la5,x.eb6⟩:Pt));(kk ⟨(decide (t1 > 0))⟩)
noncomputable def ma5 (x:Z0):O0:=O1 (fun r=>r) x
noncomputable def ka5 (x:Z0) (r:O0):DT (b7×List b8):=.ret ((b r.bs0),[⟨0,4,[[(i x.i5),(i x.c7),(i x.i6),(i x.d9)]],true,false,0⟩])
theorem vb0 {α β:Type} (F:α→β) (kk:O0→α) (x:Z0):F (O1 kk x)=O1 (fun r=>F (kk r)) x:=by unfold O1;(repeat' apply l7 (f:=F))<;>rfl
noncomputable def Ia2:Sum:=ab2 ⟨[(.agg [(.o (.int .i64)),(.o (.int .i64)),(.o (.int .i64)),(.o (.int .i64))]),(.s (.o (.ptr 0 0 0 0)))],[⟨0,4,true,(some [[(.o (.int .i64)),(.o (.int .i64)),(.o (.int .i64)),(.o (.int .i64))]])⟩],fun a H=>(⟨(toI (slT (cellsOf (slT a 0)) 0)),(toI (slT (cellsOf (slT a 0)) 1)),(toI (slT (cellsOf (slT a 0)) 2)),(toI (slT (cellsOf (slT a 0)) 3)),(toI (slT (rwT (elT H 0) 0) 0)),(toI (slT (rwT (elT H 0) 0) 1)),(toI (slT (rwT (elT H 0) 0) 2)),(toI (slT (rwT (elT H 0) 0) 3))⟩,())⟩ (fun x=>ka5 x (ma5 x))
theorem qb2:g7 prog G 176 Ia2:=O8 (enc:=fun x=>⟨[(.agg [(i x.la3),(i x.la4),(i x.la5),(i x.eb6)]),(.ptr 0 0 0 0)],[⟨0,4,[[(i x.i5),(i x.c7),(i x.i6),(i x.d9)]],true,false,0⟩]⟩) (fun a H=>by kernel_rfl) (bd De6 mb2) fun x=>r4 (Eq.trans (b:=O1 (fun r=>(ka5 x r).run) x) (by kernel_rfl) (vb0 (fun r=>(ka5 x r).run) (fun r=>r) x).symm)
structure S9 where
 A3:List Pt
 i5:Int
 c7:Int
 i6:Int
 d9:Int
noncomputable def xa5:List (Nat×Sum):=[(176,Ia2)]
theorem cb4:j7 prog G xa5:=⟨qb2,trivial⟩
structure G3 where
 A3:List Pt
 is7:Int
 i5:Int
 c7:Int
 i6:Int
 d9:Int
structure o5 where
 is8:Int
noncomputable def Xa1 (p:G3) (s:o5):St:=⟨((eL tX p.A3)::((.fn 176 [(.ptr 0 0 0 0)])::(ra 5 ((i p.is7)::((i s.is8)::(ra 10 [])))))),[⟨0,4,[[(i p.i5),(i p.c7),(i p.i6),(i p.d9)]],true,false,0⟩]⟩
noncomputable def D4 {α:Type} (k:o5→α) (e:Nat→α) (z:α) (p:G3) (s:o5):α:=let t1:=(ma5 ⟨(gL tX p.A3 s.is8.toNat).px,(gL tX p.A3 s.is8.toNat).py,(gL tX p.A3 s.is8.toNat).pz,(gL tX p.A3 s.is8.toNat).pw,p.i5,p.c7,p.i6,p.d9⟩);(sl (decide (s.is8 < p.is7)) (sl (inB s.is8 (List.length p.A3)) (sl t1.bs0 (e 1) (k ⟨(W (s.is8+1))⟩)) z) (e 2))
noncomputable def E9 (p:G3) (s:o5):Stp o5:=D4 .next .exit .fail p s
noncomputable def ba6:Lo G3 o5:=⟨En xa5,1,Nd3,[1,0,1,4,4],[0,1,7,8],.p,[⟨((.s (.c 4 (nL tX)))::((.fn 176 [(.o (.ptr 0 0 0 0))])::(ru2 5 ((.s (.o (.int .i64)))::((.s (.o (.int .i64)))::(ru2 10 [])))))),[⟨0,4,true,(some [[(.o (.int .i64)),(.o (.int .i64)),(.o (.int .i64)),(.o (.int .i64))]])⟩],fun a H=>(⟨(rL tX (slT a 0)),(toI (slT a 7)),(toI (slT (rwT (elT H 0) 0) 0)),(toI (slT (rwT (elT H 0) 0) 1)),(toI (slT (rwT (elT H 0) 0) 2)),(toI (slT (rwT (elT H 0) 0) 3))⟩,⟨(toI (slT a 8))⟩)⟩],E9,[(none,fun p s=>⟨[(i s.is8)],[⟨0,4,[[(i p.i5),(i p.c7),(i p.i6),(i p.d9)]],true,false,0⟩]⟩),(some 0,fun p s=>⟨((eL tX p.A3)::((.fn 176 [(.ptr 0 0 0 0)])::(ra 5 ((i p.is7)::((i s.is8)::((b (decide (s.is8 < p.is7)))::(ra 9 []))))))),[⟨0,4,[[(i p.i5),(i p.c7),(i p.i6),(i p.d9)]],true,false,0⟩]⟩)],Xa1⟩
theorem Xa2:ba6.Ok:=Lo.ok [] (by kernel_rfl) .nil rfl (.cons (fun a H=>by kernel_rfl) .nil) fun p s=>(.of @D4 (fun F _ _ _ _ _=>by unfold D4;(repeat' apply l7 (f:=F))<;>rfl) (by kernel_rfl))
structure T0 where
 alt:Nat
 is0:Int
noncomputable def D9 {α:Type} (kk:T0→α) (x:S9):α:=let t1:=(lp (E9 (⟨(rt tX x.A3),(↑(List.length x.A3):Int),x.i5,x.c7,x.i6,x.d9⟩:G3)) (⟨0⟩:o5));(sl ((cnE tX x.A3)&&true) (sl (Nat.beq t1.1 1) (kk ⟨1,t1.2.is8⟩) (sl (Nat.beq t1.1 2) (kk ⟨1,(-1)⟩) (kk ⟨0,0⟩))) (kk ⟨0,0⟩))
noncomputable def ha4 (x:S9):T0:=D9 (fun r=>r) x
noncomputable def da6 (x:S9) (r:T0):DT (b7×List b8):=(.ite (Nat.beq r.alt 1) (.ret ((i r.is0),[⟨0,4,[[(i x.i5),(i x.c7),(i x.i6),(i x.d9)]],true,false,0⟩])) .fail)
theorem mb3 {α β:Type} (F:α→β) (kk:T0→α) (x:S9):F (D9 kk x)=D9 (fun r=>F (kk r)) x:=by unfold D9;(repeat' apply l7 (f:=F))<;>rfl
noncomputable def Aa2:Sum:=ab2 ⟨[(.s (.c 4 (nL tX))),(.fn 176 [(.o (.ptr 0 0 0 0))])],[⟨0,4,true,(some [[(.o (.int .i64)),(.o (.int .i64)),(.o (.int .i64)),(.o (.int .i64))]])⟩],fun a H=>(⟨(rL tX (slT a 0)),(toI (slT (rwT (elT H 0) 0) 0)),(toI (slT (rwT (elT H 0) 0) 1)),(toI (slT (rwT (elT H 0) 0) 2)),(toI (slT (rwT (elT H 0) 0) 3))⟩,())⟩ (fun x=>da6 x (ha4 x))
theorem gb0:g7 prog G 185 Aa2:=O8 (enc:=fun x=>⟨[(eL tX x.A3),(.fn 176 [(.ptr 0 0 0 0)])],[⟨0,4,[[(i x.i5),(i x.c7),(i x.i6),(i x.d9)]],true,false,0⟩]⟩) (fun a H=>by kernel_rfl) (bd ue2 cb4) fun x=>ya4 (.s .p (.s (.s .p (.b (.u ba6.ls))) .p)) [ba6.pr] (by kernel_rfl) (.cons Xa2 .nil) (Eq.trans (b:=D9 (fun r=>(da6 x r).run) x) (by kernel_rfl) (mb3 (fun r=>(da6 x r).run) (fun r=>r) x).symm)
structure L7 where
 A3:List Pt
 i5:Int
 c7:Int
 i6:Int
 d9:Int
noncomputable def Ua3:List (Nat×Sum):=[(185,Aa2)]
theorem Qa5:j7 prog G Ua3:=⟨gb0,trivial⟩
structure L8 where
 alt:Nat
 bs0:Bool
noncomputable def A0 {α:Type} (kk:L8→α) (x:L7):α:=let t1:=(ha4 ⟨(rt tX x.A3),x.i5,x.c7,x.i6,x.d9⟩);(sl ((cnE tX x.A3)&&true) (sl (Nat.beq t1.alt 1) (kk ⟨1,(decide (t1.is0≥0))⟩) (kk ⟨0,false⟩)) (kk ⟨0,false⟩))
noncomputable def Z1 (x:L7):L8:=A0 (fun r=>r) x
noncomputable def W8 (x:L7) (r:L8):DT (b7×List b8):=(.ite (Nat.beq r.alt 1) (.ret ((b r.bs0),[⟨0,4,[[(i x.i5),(i x.c7),(i x.i6),(i x.d9)]],true,false,0⟩])) .fail)
theorem Xa3 {α β:Type} (F:α→β) (kk:L8→α) (x:L7):F (A0 kk x)=A0 (fun r=>F (kk r)) x:=by unfold A0;(repeat' apply l7 (f:=F))<;>rfl
noncomputable def ra3:Sum:=ab2 ⟨[(.s (.c 4 (nL tX))),(.fn 176 [(.o (.ptr 0 0 0 0))])],[⟨0,4,true,(some [[(.o (.int .i64)),(.o (.int .i64)),(.o (.int .i64)),(.o (.int .i64))]])⟩],fun a H=>(⟨(rL tX (slT a 0)),(toI (slT (rwT (elT H 0) 0) 0)),(toI (slT (rwT (elT H 0) 0) 1)),(toI (slT (rwT (elT H 0) 0) 2)),(toI (slT (rwT (elT H 0) 0) 3))⟩,())⟩ (fun x=>W8 x (Z1 x))
theorem Ua4:g7 prog G 113 ra3:=O8 (enc:=fun x=>⟨[(eL tX x.A3),(.fn 176 [(.ptr 0 0 0 0)])],[⟨0,4,[[(i x.i5),(i x.c7),(i x.i6),(i x.d9)]],true,false,0⟩]⟩) (fun a H=>by kernel_rfl) (bd ue1 Qa5) fun x=>r4 (Eq.trans (b:=A0 (fun r=>(W8 x r).run) x) (by kernel_rfl) (Xa3 (fun r=>(W8 x r).run) (fun r=>r) x).symm)
structure fa4 where
 la3:Int
 la4:Int
 la5:Int
 eb6:Int
 k0:List Pt
noncomputable def yb9:List (Nat×Sum):=[(113,ra3)]
theorem vb1:j7 prog G yb9:=⟨Ua4,trivial⟩
structure U2 where
 alt:Nat
 bs0:Bool
noncomputable def L4 {α:Type} (kk:U2→α) (x:fa4):α:=let t1:=(Z1 ⟨(rt tX x.k0),x.la3,x.la4,x.la5,x.eb6⟩);(sl ((cnE tX x.k0)&&true) (sl (Nat.beq t1.alt 1) (kk ⟨1,(!t1.bs0)⟩) (kk ⟨0,false⟩)) (kk ⟨0,false⟩))
noncomputable def fa5 (x:fa4):U2:=L4 (fun r=>r) x
noncomputable def qa9 (x:fa4) (r:U2):DT (b7×List b8):=(.ite (Nat.beq r.alt 1) (.ret ((b r.bs0),[⟨0,1,[[(eL tX x.k0)]],true,false,0⟩])) .fail)
theorem Fb1 {α β:Type} (F:α→β) (kk:U2→α) (x:fa4):F (L4 kk x)=L4 (fun r=>F (kk r)) x:=by unfold L4;(repeat' apply l7 (f:=F))<;>rfl
noncomputable def Qa6:Sum:=ab2 ⟨[(.agg [(.o (.int .i64)),(.o (.int .i64)),(.o (.int .i64)),(.o (.int .i64))]),(.s (.o (.ptr 0 0 0 0)))],[⟨0,1,true,(some [[(.c 4 (nL tX))]])⟩],fun a H=>(⟨(toI (slT (cellsOf (slT a 0)) 0)),(toI (slT (cellsOf (slT a 0)) 1)),(toI (slT (cellsOf (slT a 0)) 2)),(toI (slT (cellsOf (slT a 0)) 3)),(rL tX (slT (rwT (elT H 0) 0) 0))⟩,())⟩ (fun x=>qa9 x (fa5 x))
theorem zb0:g7 prog G 175 Qa6:=O8 (enc:=fun x=>⟨[(.agg [(i x.la3),(i x.la4),(i x.la5),(i x.eb6)]),(.ptr 0 0 0 0)],[⟨0,1,[[(eL tX x.k0)]],true,false,0⟩]⟩) (fun a H=>by kernel_rfl) (bd De5 vb1) fun x=>r4 (Eq.trans (b:=L4 (fun r=>(qa9 x r).run) x) (by kernel_rfl) (Fb1 (fun r=>(qa9 x r).run) (fun r=>r) x).symm)
structure P8 where
 c8:List Pln
 k0:List Pt
noncomputable def ta7:List (Nat×Sum):=[(175,Qa6)]
theorem Xa4:j7 prog G ta7:=⟨zb0,trivial⟩
structure F4 where
 c8:List Pln
 is7:Int
structure n7 where
 is8:Int
 k0:List Pt
noncomputable def Ua5 (p:F4) (s:n7):St:=⟨((eL tP p.c8)::((.fn 175 [(.ptr 0 0 0 0)])::(ra 5 ((i p.is7)::((i s.is8)::(ra 10 [])))))),[⟨0,1,[[(eL tX s.k0)]],true,false,0⟩]⟩
noncomputable def B0 {α:Type} (k:n7→α) (e:Nat→α) (z:α) (p:F4) (s:n7):α:=let t1:=(fa5 ⟨(gL tP p.c8 s.is8.toNat).n.x,(gL tP p.c8 s.is8.toNat).n.y,(gL tP p.c8 s.is8.toNat).n.z,(gL tP p.c8 s.is8.toNat).b,(rt tX s.k0)⟩);(sl (decide (s.is8 < p.is7)) (sl (inB s.is8 (List.length p.c8)) (sl ((cnE tX s.k0)&&true) (sl (Nat.beq t1.alt 1) (sl t1.bs0 (e 1) (k ⟨(W (s.is8+1)),(rt tX s.k0)⟩)) z) z) z) (e 2))
noncomputable def D5 (p:F4) (s:n7):Stp n7:=B0 .next .exit .fail p s
noncomputable def Z2:Lo F4 n7:=⟨En ta7,1,fe2,[1,0,1,4,4],[0,1,7,8],.p,[⟨((.s (.c 4 (nL tP)))::((.fn 175 [(.o (.ptr 0 0 0 0))])::(ru2 5 ((.s (.o (.int .i64)))::((.s (.o (.int .i64)))::(ru2 10 [])))))),[⟨0,1,true,(some [[(.c 4 (nL tX))]])⟩],fun a H=>(⟨(rL tP (slT a 0)),(toI (slT a 7))⟩,⟨(toI (slT a 8)),(rL tX (slT (rwT (elT H 0) 0) 0))⟩)⟩],D5,[(none,fun p s=>⟨[(i s.is8)],[⟨0,1,[[(eL tX (rt tX s.k0))]],true,false,0⟩]⟩),(some 0,fun p s=>⟨((eL tP p.c8)::((.fn 175 [(.ptr 0 0 0 0)])::(ra 5 ((i p.is7)::((i s.is8)::((b (decide (s.is8 < p.is7)))::(ra 9 []))))))),[⟨0,1,[[(eL tX s.k0)]],true,false,0⟩]⟩)],Ua5⟩
theorem Ua6:Z2.Ok:=Lo.ok [] (by kernel_rfl) .nil rfl (.cons (fun a H=>by kernel_rfl) .nil) fun p s=>(.of @B0 (fun F _ _ _ _ _=>by unfold B0;(repeat' apply l7 (f:=F))<;>rfl) (by kernel_rfl))
structure P9 where
 alt:Nat
 is0:Int
 k0:List Pt
noncomputable def B8 {α:Type} (kk:P9→α) (x:P8):α:=let t1:=(lp (D5 (⟨(rt tP x.c8),(↑(List.length x.c8):Int)⟩:F4)) (⟨0,(rt tX x.k0)⟩:n7));(sl ((cnE tP x.c8)&&((cnE tX x.k0)&&true)) (sl (Nat.beq t1.1 1) (kk ⟨1,t1.2.is8,(rt tX t1.2.k0)⟩) (sl (Nat.beq t1.1 2) (kk ⟨1,(-1),t1.2.k0⟩) (kk ⟨0,0,[]⟩))) (kk ⟨0,0,[]⟩))
noncomputable def da7 (x:P8):P9:=B8 (fun r=>r) x
noncomputable def ba7 (x:P8) (r:P9):DT (b7×List b8):=(.ite (Nat.beq r.alt 1) (.ret ((i r.is0),[⟨0,1,[[(eL tX r.k0)]],true,false,0⟩])) .fail)
theorem gb1 {α β:Type} (F:α→β) (kk:P9→α) (x:P8):F (B8 kk x)=B8 (fun r=>F (kk r)) x:=by unfold B8;(repeat' apply l7 (f:=F))<;>rfl
noncomputable def xa6:Sum:=ab2 ⟨[(.s (.c 4 (nL tP))),(.fn 175 [(.o (.ptr 0 0 0 0))])],[⟨0,1,true,(some [[(.c 4 (nL tX))]])⟩],fun a H=>(⟨(rL tP (slT a 0)),(rL tX (slT (rwT (elT H 0) 0) 0))⟩,())⟩ (fun x=>ba7 x (da7 x))
theorem cb5:g7 prog G 221 xa6:=O8 (enc:=fun x=>⟨[(eL tP x.c8),(.fn 175 [(.ptr 0 0 0 0)])],[⟨0,1,[[(eL tX x.k0)]],true,false,0⟩]⟩) (fun a H=>by kernel_rfl) (bd Fe3 Xa4) fun x=>ya4 (.s .p (.s (.s .p (.b (.u Z2.ls))) .p)) [Z2.pr] (by kernel_rfl) (.cons Ua6 .nil) (Eq.trans (b:=B8 (fun r=>(ba7 x r).run) x) (by kernel_rfl) (gb1 (fun r=>(ba7 x r).run) (fun r=>r) x).symm)
structure K0 where
 c8:List Pln
 k0:List Pt
noncomputable def Qa7:List (Nat×Sum):=[(221,xa6)]
theorem Ma6:j7 prog G Qa7:=⟨cb5,trivial⟩
structure K1 where
 alt:Nat
 bs0:Bool
 k0:List Pt
noncomputable def y6 {α:Type} (kk:K1→α) (x:K0):α:=let t1:=(da7 ⟨(rt tP x.c8),(rt tX x.k0)⟩);(sl ((cnE tP x.c8)&&((cnE tX x.k0)&&true)) (sl (Nat.beq t1.alt 1) (kk ⟨1,(decide (t1.is0≥0)),t1.k0⟩) (kk ⟨0,false,[]⟩)) (kk ⟨0,false,[]⟩))
noncomputable def W9 (x:K0):K1:=y6 (fun r=>r) x
noncomputable def U3 (x:K0) (r:K1):DT (b7×List b8):=(.ite (Nat.beq r.alt 1) (.ret ((b r.bs0),[⟨0,1,[[(eL tX r.k0)]],true,false,0⟩])) .fail)
theorem Ua7 {α β:Type} (F:α→β) (kk:K1→α) (x:K0):F (y6 kk x)=y6 (fun r=>F (kk r)) x:=by unfold y6;(repeat' apply l7 (f:=F))<;>rfl
noncomputable def oa0:Sum:=ab2 ⟨[(.s (.c 4 (nL tP))),(.fn 175 [(.o (.ptr 0 0 0 0))])],[⟨0,1,true,(some [[(.c 4 (nL tX))]])⟩],fun a H=>(⟨(rL tP (slT a 0)),(rL tX (slT (rwT (elT H 0) 0) 0))⟩,())⟩ (fun x=>U3 x (W9 x))
theorem Qa8:g7 prog G 174 oa0:=O8 (enc:=fun x=>⟨[(eL tP x.c8),(.fn 175 [(.ptr 0 0 0 0)])],[⟨0,1,[[(eL tX x.k0)]],true,false,0⟩]⟩) (fun a H=>by kernel_rfl) (bd De4 Ma6) fun x=>r4 (Eq.trans (b:=y6 (fun r=>(U3 x r).run) x) (by kernel_rfl) (Ua7 (fun r=>(U3 x r).run) (fun r=>r) x).symm)
noncomputable def Kb8:List (Nat×Sum):=[(89,qa8),(174,oa0)]
theorem Fb2:j7 prog G Kb8:=⟨Ha3,Qa8,trivial⟩
noncomputable def ba8 (x:List Pln):Option (b7×List b8):=let t1:=(R4 (rt tP x));let t2:=(W9 ⟨(rt tP x),(rt tX t1)⟩);(sl (okE tP x) (sl (R5 (rt tP x)) (sl ((cnE tP x)&&((cnE tX t1)&&true)) (sl (Nat.beq t2.alt 1) (some ((b (!t2.bs0)),[])) none) none) none) none)
noncomputable def ba9 (x:List Pln):Bool:=I5 (one r1B) (ba8 x)
noncomputable def ca0 (x:List Pln):Bool:=okO (one r1B) (ba8 x)
noncomputable def Da3:Sum:=da3 (V2 tP) (fun x=>.guard (ca0 x) (.ret ((one r1B).enc (ba9 x),[])))
theorem Va9:g7 prog G 92 Da3:=wa2 (bd b92 Fb2) (one r1B) (o:=ba8) fun x=>r4 (by kernel_rfl)
noncomputable def yc3:List (Nat×Sum):=[(87,wa8),(88,Jb6),(89,qa8)]
theorem nc4:j7 prog G yc3:=⟨Aa1,Rb1,Ha3,trivial⟩
noncomputable def Aa3 (x:List Pln):Option (b7×List b8):=let t1:=(Y8 [(rt tP x)]);let t2:=(Ma3 [(rt tP x)]);let t3:=(R4 (rt tP t2));(sl ((okE tP x)&&true) (sl (Y9 [(rt tP x)]) (sl (!t1) (some ((.v (.slice none 0 0)),[])) (sl ((okE tP x)&&true) (sl (Ma4 [(rt tP x)]) (sl (okE tP t2) (sl (R5 (rt tP t2)) (some ((eL tX t3),[])) none) none) none) none)) none) none)
noncomputable def T1 (x:List Pln):List Pt:=I5 (one (r1L tX)) (Aa3 x)
noncomputable def T2 (x:List Pln):Bool:=okO (one (r1L tX)) (Aa3 x)
noncomputable def pa5:Sum:=da3 (V2 tP) (fun x=>.guard (T2 x) (.ret ((one (r1L tX)).enc (T1 x),[])))
theorem ta8:g7 prog G 18 pa5:=wa2 (bd b18 nc4) (one (r1L tX)) (o:=Aa3) fun x=>r4 (by kernel_rfl)
noncomputable def Wc2:List (Nat×Sum):=[(87,wa8),(88,Jb6),(92,Da3)]
theorem Hc4:j7 prog G Wc2:=⟨Aa1,Rb1,Va9,trivial⟩
noncomputable def Qa9 (x:List Pln):Option (b7×List b8):=let t1:=(Y8 [(rt tP x)]);let t2:=(Ma3 [(rt tP x)]);let t3:=(ba9 (rt tP t2));(sl ((okE tP x)&&true) (sl (Y9 [(rt tP x)]) (sl t1 (sl ((okE tP x)&&true) (sl (Ma4 [(rt tP x)]) (sl (okE tP t2) (sl (ca0 (rt tP t2)) (some ((b t3),[])) none) none) none) none) (some ((b false),[]))) none) none)
noncomputable def fa6 (x:List Pln):Bool:=I5 (one r1B) (Qa9 x)
noncomputable def fa7 (x:List Pln):Bool:=okO (one r1B) (Qa9 x)
noncomputable def Ea6:Sum:=da3 (V2 tP) (fun x=>.guard (fa7 x) (.ret ((one r1B).enc (fa6 x),[])))
theorem Ia3:g7 prog G 20 Ea6:=wa2 (bd b20 Hc4) (one r1B) (o:=Qa9) fun x=>r4 (by kernel_rfl)
noncomputable def Hc5:List (Nat×Sum):=[]
theorem yc4:j7 prog G Hc5:=trivial
noncomputable def Ia4 (x:Int) (y:Int):Option (b7×List b8):=(sl (y==0) none (sl (y==0) none (sl (decide ((Int.tmod x y) < 0)) (some ((i (W ((W (Int.tdiv x y)) - 1))),[])) (some ((i (W (Int.tdiv x y))),[])))))
noncomputable def Z3 (x:Int) (y:Int):Int:=I5 (one r1I) (Ia4 x y)
noncomputable def Z4 (x:Int) (y:Int):Bool:=okO (one r1I) (Ia4 x y)
noncomputable def Yb3:Sum:=ja0 cI cI (fun x y=>.guard (Z4 x y) (.ret ((one r1I).enc (Z3 x y),[])))
theorem Hc6:g7 prog G 95 Yb3:=eb7 (bd b95 yc4) (one r1I) (o:=Ia4) fun x y=>r4 (by kernel_rfl)
noncomputable def Nb1:List (Nat×Sum):=[(20,Ea6),(94,ub2),(18,pa5),(95,Yb3)]
theorem yc5:j7 prog G Nb1:=⟨Ia3,Mb8,ta8,Hc6,trivial⟩
structure ta9 where
 S1:List Pt
 ce8:Int
structure U4 where
 ca6:Int
 L9:Int
 M0:Int
 M1:Int
 Ka5:Int
 Ka6:Int
 Ka7:Int
noncomputable def nc5 (p:ta9) (s:U4):St:=⟨(.unk::(.unk::((.ptr 0 0 0 0)::((.ptr 1 0 0 0)::(.unk::((.ptr 2 0 0 0)::((.ptr 3 0 0 0)::(ra 11 ((eL tX p.S1)::((i p.ce8)::((i s.ca6)::(ra 62 [])))))))))))),[⟨0,3,[[(i 0),(i 0),(i 0)]],true,false,0⟩,⟨0,3,[[(i 0),(i 0),(i 0)]],true,false,0⟩,⟨0,3,[[(i s.L9),(i s.M0),(i s.M1)]],true,false,0⟩,⟨0,3,[[(i s.Ka5),(i s.Ka6),(i s.Ka7)]],true,false,0⟩]⟩
noncomputable def ka6 {α:Type} (k:U4→α) (e:Nat→α) (z:α) (p:ta9) (s:U4):α:=let t1:=(Z3 (gL tX p.S1 s.ca6.toNat).px (gL tX p.S1 s.ca6.toNat).pw);let t2:=(Z3 (gL tX p.S1 s.ca6.toNat).py (gL tX p.S1 s.ca6.toNat).pw);let t3:=(Z3 (gL tX p.S1 s.ca6.toNat).pz (gL tX p.S1 s.ca6.toNat).pw);let t4:=(Z3 (W (0 - (gL tX p.S1 s.ca6.toNat).px)) (gL tX p.S1 s.ca6.toNat).pw);let t5:=(Z3 (W (0 - (gL tX p.S1 s.ca6.toNat).py)) (gL tX p.S1 s.ca6.toNat).pw);let t6:=(Z3 (W (0 - (gL tX p.S1 s.ca6.toNat).pz)) (gL tX p.S1 s.ca6.toNat).pw);(sl (decide (s.ca6 < p.ce8)) (sl (inB s.ca6 (List.length p.S1)) (sl (Z4 (gL tX p.S1 s.ca6.toNat).px (gL tX p.S1 s.ca6.toNat).pw) (sl (Z4 (gL tX p.S1 s.ca6.toNat).py (gL tX p.S1 s.ca6.toNat).pw) (sl (Z4 (gL tX p.S1 s.ca6.toNat).pz (gL tX p.S1 s.ca6.toNat).pw) (sl (Z4 (W (0 - (gL tX p.S1 s.ca6.toNat).px)) (gL tX p.S1 s.ca6.toNat).pw) (sl (Z4 (W (0 - (gL tX p.S1 s.ca6.toNat).py)) (gL tX p.S1 s.ca6.toNat).pw) (sl (Z4 (W (0 - (gL tX p.S1 s.ca6.toNat).pz)) (gL tX p.S1 s.ca6.toNat).pw) (k ⟨(W (s.ca6+1)),(if t1 < s.L9 then t1 else s.L9),(if t2 < s.M0 then t2 else s.M0),(if t3 < s.M1 then t3 else s.M1),(if (W (0 - t4)) > s.Ka5 then (W (0 - t4)) else s.Ka5),(if (W (0 - t5)) > s.Ka6 then (W (0 - t5)) else s.Ka6),(if (W (0 - t6)) > s.Ka7 then (W (0 - t6)) else s.Ka7)⟩) z) z) z) z) z) z) z) (e 1))
noncomputable def ea2 (p:ta9) (s:U4):Stp U4:=ka6 .next .exit .fail p s
noncomputable def cb6:Lo ta9 U4:=⟨En Nb1,0,qe3,[1,1,1,1,0,1,4,4],[2,3,5,6,18,19,20],.p,[⟨((.s (.o .unk))::((.s (.o .unk))::((.s (.o (.ptr 0 0 0 0)))::((.s (.o (.ptr 1 0 0 0)))::((.s (.o .unk))::((.s (.o (.ptr 2 0 0 0)))::((.s (.o (.ptr 3 0 0 0)))::(ru2 11 ((.s (.c 4 (nL tX)))::((.s (.o (.int .i64)))::((.s (.o (.int .i64)))::(ru2 62 [])))))))))))),[⟨0,3,true,(some [[(.o (.lit .i64 0)),(.o (.lit .i64 0)),(.o (.lit .i64 0))]])⟩,⟨0,3,true,(some [[(.o (.lit .i64 0)),(.o (.lit .i64 0)),(.o (.lit .i64 0))]])⟩,⟨0,3,true,(some [[(.o (.int .i64)),(.o (.int .i64)),(.o (.int .i64))]])⟩,⟨0,3,true,(some [[(.o (.int .i64)),(.o (.int .i64)),(.o (.int .i64))]])⟩],fun a H=>(⟨(rL tX (slT a 18)),(toI (slT a 19))⟩,⟨(toI (slT a 20)),(toI (slT (rwT (elT H 2) 0) 0)),(toI (slT (rwT (elT H 2) 0) 1)),(toI (slT (rwT (elT H 2) 0) 2)),(toI (slT (rwT (elT H 3) 0) 0)),(toI (slT (rwT (elT H 3) 0) 1)),(toI (slT (rwT (elT H 3) 0) 2))⟩)⟩],ea2,[(some 0,fun p s=>⟨(.unk::(.unk::((.ptr 0 0 0 0)::((.ptr 1 0 0 0)::(.unk::((.ptr 2 0 0 0)::((.ptr 3 0 0 0)::(ra 11 ((eL tX p.S1)::((i p.ce8)::((i s.ca6)::((b (decide (s.ca6 < p.ce8)))::(ra 61 []))))))))))))),[⟨0,3,[[(i 0),(i 0),(i 0)]],true,false,0⟩,⟨0,3,[[(i 0),(i 0),(i 0)]],true,false,0⟩,⟨0,3,[[(i s.L9),(i s.M0),(i s.M1)]],true,false,0⟩,⟨0,3,[[(i s.Ka5),(i s.Ka6),(i s.Ka7)]],true,false,0⟩]⟩)],nc5⟩
theorem nc6:cb6.Ok:=Lo.ok [] (by kernel_rfl) .nil rfl (.cons (fun a H=>by kernel_rfl) .nil) fun p s=>(.of @ka6 (fun F _ _ _ _ _=>by unfold ka6;(repeat' apply l7 (f:=F))<;>rfl) (by kernel_rfl))
noncomputable def Ia5 (x:List Pln):Option (b7×List b8):=let t1:=(fa6 (rt tP x));let t2:=(N9 (⟨24,24,24⟩:V3) (-1));let t3:=(T1 (rt tP x));let t4:=(lp (ea2 (⟨(rt tX t3),(↑(List.length t3):Int)⟩:ta9)) (⟨0,24,24,24,t2.x,t2.y,t2.z⟩:U4));(sl (okE tP x) (sl (fa7 (rt tP x)) (sl (!t1) (some ((.tup [(.agg [(i 0),(i 0),(i 0)]),(.agg [(i 0),(i 0),(i 0)]),(b false)]),[])) (sl (okE tP x) (sl (T2 (rt tP x)) (sl ((cnE tX t3)&&true) (sl (Nat.beq t4.1 1) (some ((.tup [(.agg [(i t4.2.L9),(i t4.2.M0),(i t4.2.M1)]),(.agg [(i t4.2.Ka5),(i t4.2.Ka6),(i t4.2.Ka7)]),(b true)]),[])) none) none) none) none)) none) none)
noncomputable def Ia6 (x:List Pln):V3×V3×Bool:=I5 (Vb3 r1V r1V r1B) (Ia5 x)
noncomputable def Ia7 (x:List Pln):Bool:=okO (Vb3 r1V r1V r1B) (Ia5 x)
noncomputable def vb2:Sum:=da3 (V2 tP) (fun x=>.guard (Ia7 x) (.ret ((Vb3 r1V r1V r1B).enc (Ia6 x),[])))
theorem Nb2:g7 prog G 22 vb2:=wa2 (bd b22 yc5) (Vb3 r1V r1V r1B) (o:=Ia5) fun x=>ya4 (.s .p (.s .p (.s .p (.s .p (.s (.s .p (.b (.u cb6.ls))) .p))))) [cb6.pr] (by kernel_rfl) (.cons nc6 .nil) (by kernel_rfl)
end Go.Ev.Ce
end
namespace Go.Ev.Ce
open Go Go.Ev Go.Ev.L Go.Proofs
theorem Fd9 (P:wa4) (g n:Int) (hn:n.natAbs≤9223372036854775808):lp (za7 P) ⟨g,n⟩=(1,⟨eu g n,0⟩) :=
 yd0 (mk:=fun g n=>(⟨g,n⟩:fa0)) (fun g n h=>by simp[za7,sa9,ab0,h]) (fun g=>by simp[za7,sa9,ab0]) g n hn
theorem Gd0 (l:List Int) (hl:l.length≤1000000000) (hb:∀ x∈l,x.natAbs≤9223372036854775808):lp (pa4 ⟨(l.length:Int)⟩) ⟨0,l,0⟩=(1,⟨l.foldl eu 0,l,l.length⟩):=by
 have := Ib8 (step := pa4 ⟨(l.length : Int)⟩) (mk := fun j a => (⟨a, l, (j : Int)⟩ : fa1)) (f := eu) (fin := 1) tI l (fun _ _ => True) hl (fun j a hj _ => ⟨by
   simp only[pa4,ta0,Int.toNat_natCast,m8,o0,Fd9 _ _ _ (hb _ (dc1 tI hj)),p4 hj (by omega)]
   rw[bt (Cb7 hj),bt (f7 hj)]
   rfl,trivial⟩) (fun a _=>by simp[pa4,ta0,ab0]) 0 (Nat.zero_le _) 0 trivial
 simpa using this.1
theorem Yb4:∀ (l:List Int) (g:Int),(l.foldl eu g).natAbs=l.foldl (fun a x=>Nat.gcd a x.natAbs) g.natAbs
 | [],_=>rfl
 | x::l,g=>by rw[List.foldl_cons,Yb4 l,List.foldl_cons,Jd9];rfl
theorem ke2 (l:List Int) (hl:l.length≤1000000000) (hb:∀ x∈l,x.natAbs≤9223372036854775807) (h0:(l.foldl eu 0).natAbs≤9223372036854775807):bb8 l=some (i ((l.foldl eu 0).natAbs:Int),[]):=by
 unfold bb8
 simp only[m8,o0,Gd0 l hl (fun x hx=>Nat.le_succ_of_le (hb x hx))]
 generalize l.foldl eu 0=e at *
 have:W (0 - e)=-e:=by rw[ya3 (by omega) (by omega)];omega
 rw[this]
 show some (i (if -e > e then -e else e),[])=_
 congr 3
 split<;>omega
theorem Oc1 (x y:Int) (hx:0≤x) (hy:0≤y) (hb:y≤9223372036854775807):Ga2 x y=some (i (Int.gcd x y:Int),[]):=by
 unfold Ga2
 have:=yd0 (step:=na0 ⟨⟩) (mk:=fun g n=>(⟨g,n⟩:T8)) (fun g n h=>by simp[na0,ja2,ab0,h]) (fun g=>by simp[na0,ja2,ab0]) x y (by omega)
 simp only[this,Kd0 hx hy]
 rfl
theorem yc6 (x y:Int) (hx:0≤x) (hy:0≤y) (hb:y≤9223372036854775807):N0 x y=(Int.gcd x y:Int):=by unfold N0;rw[Oc1 x y hx hy hb];rfl
theorem yc7 (x y:Int) (hx:0≤x) (hy:0≤y) (hb:y≤9223372036854775807):N1 x y=true:=by unfold N1;rw[Oc1 x y hx hy hb];rfl
noncomputable def rm (p:Pln) (x:Pt):Int:=W (p.b*x.pw - (p.n.x*x.px+p.n.y*x.py+p.n.z*x.pz))
theorem Wc3 (p:Pln) (x:Pt):la9 p x=rm p x:=by
 unfold la9 Ea4 rm
 simp only[kb4,Pb7,vc0,Tc6]
theorem yd7 (p:Pln) (x:Pt):ab7 p x=rm p x:=by
 unfold ab7 rm
 simp only[kb4,Pb7,vc0,Tc6]
 congr 1
 omega
structure Bd (p:Pln):Prop where
 x1:-4608≤p.n.x
 x2:p.n.x≤4608
 y1:-4608≤p.n.y
 y2:p.n.y≤4608
 z1:-4608≤p.n.z
 z2:p.n.z≤4608
 b1:-2097152≤p.b
 b2:p.b≤2097152
def mv (p q r:Pln):V3 :=
 ⟨(E4 q.n r.n).x*p.b+(E4 r.n p.n).x*q.b+(E4 p.n q.n).x*r.b,
  (E4 q.n r.n).y*p.b+(E4 r.n p.n).y*q.b+(E4 p.n q.n).y*r.b,
  (E4 q.n r.n).z*p.b+(E4 r.n p.n).z*q.b+(E4 p.n q.n).z*r.b⟩
def gc (v:V3) (w:Int):Int:=(Nat.gcd (Nat.gcd v.x.natAbs v.y.natAbs) (Nat.gcd v.z.natAbs w.natAbs):Nat)
def mpt (p q r:Pln):Pt×Bool :=
 if mw p q r=0 then (⟨0,0,0,0⟩,false)
 else if mw p q r < 0 then (⟨Int.tdiv (-(mv p q r).x) (gc (mv p q r) (mw p q r)),Int.tdiv (-(mv p q r).y) (gc (mv p q r) (mw p q r)),Int.tdiv (-(mv p q r).z) (gc (mv p q r) (mw p q r)),Int.tdiv (-(mw p q r)) (gc (mv p q r) (mw p q r))⟩,true)
 else (⟨Int.tdiv (mv p q r).x (gc (mv p q r) (mw p q r)),Int.tdiv (mv p q r).y (gc (mv p q r) (mw p q r)),Int.tdiv (mv p q r).z (gc (mv p q r) (mw p q r)),Int.tdiv (mw p q r) (gc (mv p q r) (mw p q r))⟩,true)
def Sm (n:Int) (x:Int):Prop:=-n≤x∧x≤n
theorem Yb5 {a b:V3} (ha:Sm 4608 a.x∧Sm 4608 a.y∧Sm 4608 a.z) (hb:Sm 4608 b.x∧Sm 4608 b.y∧Sm 4608 b.z):Sm 42467328 (E4 a b).x∧Sm 42467328 (E4 a b).y∧Sm 42467328 (E4 a b).z:=by
 obtain⟨⟨a1,a2⟩,⟨a3,a4⟩,a5,a6⟩:=ha
 obtain⟨⟨b1,b2⟩,⟨b3,b4⟩,b5,b6⟩:=hb
 have h1:=mb a3 a4 b5 b6;have h2:=mb a5 a6 b3 b4;have h3:=mb a5 a6 b1 b2;have h4:=mb a1 a2 b5 b6;have h5:=mb a1 a2 b3 b4;have h6:=mb a3 a4 b1 b2
 unfold Sm E4
 simp only
 omega
theorem Bd.n {p:Pln} (h:Bd p):Sm 4608 p.n.x∧Sm 4608 p.n.y∧Sm 4608 p.n.z:=⟨⟨h.x1,h.x2⟩,⟨h.y1,h.y2⟩,h.z1,h.z2⟩
theorem Nd5 {p q r:Pln} (hp:Bd p) (hq:Bd q) (hr:Bd r):Sm 600000000000 (mw p q r):=by
 obtain⟨⟨c1,c2⟩,⟨c3,c4⟩,c5,c6⟩:=Yb5 hq.n hr.n
 have h1:=mb hp.x1 hp.x2 c1 c2;have h2:=mb hp.y1 hp.y2 c3 c4;have h3:=mb hp.z1 hp.z2 c5 c6
 unfold Sm mw dot
 omega
theorem Nd6 {p q r:Pln} (hp:Bd p) (hq:Bd q) (hr:Bd r):Sm 300000000000000 (mv p q r).x∧Sm 300000000000000 (mv p q r).y∧Sm 300000000000000 (mv p q r).z:=by
 obtain⟨⟨c1,c2⟩,⟨c3,c4⟩,c5,c6⟩:=Yb5 hq.n hr.n
 obtain⟨⟨d1,d2⟩,⟨d3,d4⟩,d5,d6⟩:=Yb5 hr.n hp.n
 obtain⟨⟨e1,e2⟩,⟨e3,e4⟩,e5,e6⟩:=Yb5 hp.n hq.n
 have a1:=mb c1 c2 hp.b1 hp.b2;have a2:=mb c3 c4 hp.b1 hp.b2;have a3:=mb c5 c6 hp.b1 hp.b2
 have b1:=mb d1 d2 hq.b1 hq.b2;have b2:=mb d3 d4 hq.b1 hq.b2;have b3:=mb d5 d6 hq.b1 hq.b2
 have f1:=mb e1 e2 hr.b1 hr.b2;have f2:=mb e3 e4 hr.b1 hr.b2;have f3:=mb e5 e6 hr.b1 hr.b2
 unfold Sm mv
 simp only
 omega
theorem qc6 (a b:V3):M8 a b=⟨W (E4 a b).x,W (E4 a b).y,W (E4 a b).z⟩:=by
 unfold M8 E4
 simp only[vc0,Tc6]
theorem Yb6 (a b:V3):O4 a b=⟨W (E4 a b).x,W (E4 a b).y,W (E4 a b).z⟩:=by
 unfold O4 E4
 simp only[vc0,Tc6]
theorem ke3 (p q r:Pln):dot r.n (E4 p.n q.n)=mw p q r:=by unfold mw dot E4;grind
theorem Fe4 (a b c d:Nat):[a,b,c,d].foldl Nat.gcd 0=Nat.gcd (Nat.gcd a b) (Nat.gcd c d):=by
 simp only[List.foldl_cons,List.foldl_nil,Nat.gcd_zero_left]
 rw[Nat.gcd_assoc]
theorem Wc4 {v:V3} {w:Int} (h:w≠0):0 < gc v w:=by
 unfold gc
 have:0 < Nat.gcd v.z.natAbs w.natAbs:=Nat.gcd_pos_of_pos_right _ (by omega)
 have:=Nat.gcd_pos_of_pos_right (Nat.gcd v.x.natAbs v.y.natAbs) this
 omega
theorem Nd7 {v:V3} {w:Int} (h:w≠0):gc v w≤w.natAbs:=by
 unfold gc
 have h1:Nat.gcd v.z.natAbs w.natAbs≤w.natAbs:=Nat.gcd_le_right _ (by omega)
 have h2:0 < Nat.gcd v.z.natAbs w.natAbs:=Nat.gcd_pos_of_pos_right _ (by omega)
 have h3:=Nat.gcd_le_right (m:=Nat.gcd v.x.natAbs v.y.natAbs) (n:=Nat.gcd v.z.natAbs w.natAbs) h2
 omega
theorem ua0 {x:Int} (h:Sm 1000000000000000000 x):W x=x:=ya3 (by have:=h.1;omega) (by have:=h.2;omega)
theorem Sm.mono {n m x:Int} (h:Sm n x) (hn:n≤m):Sm m x:=⟨by have:=h.1;omega,by have:=h.2;omega⟩
theorem F8 {n x g:Int} (h:Sm n x) (hg:0 < g):Sm n (Int.tdiv x g):=by
 have h1:(Int.tdiv x g).natAbs≤x.natAbs:=by rw[Int.natAbs_tdiv];exact Nat.div_le_self _ _
 have:=h.1;have:=h.2
 constructor<;>omega
theorem ke4 {p q r:Pln} (hp:Bd p) (hq:Bd q) (hr:Bd r) (h:(mpt p q r).2=true):0 < (mpt p q r).1.pw∧Sm 300000000000000 (mpt p q r).1.px∧Sm 300000000000000 (mpt p q r).1.py∧Sm 300000000000000 (mpt p q r).1.pz∧(mpt p q r).1.pw≤600000000000:=by
 have hw:=Nd5 hp hq hr
 obtain⟨v1,v2,v3⟩:=Nd6 hp hq hr
 have neg:∀ {n x:Int},Sm n x→Sm n (-x):=fun h=>⟨by have:=h.2;omega,by have:=h.1;omega⟩
 have pos:∀ {x:Int},0 < x→x.natAbs=(mw p q r).natAbs→0 < Int.tdiv x (gc (mv p q r) (mw p q r)):=fun {x} hx he=>by
  have h0:mw p q r≠0:=by omega
  have h1:=Wc4 (v:=mv p q r) h0
  have h2:=Nd7 (v:=mv p q r) h0
  rw[Int.tdiv_eq_ediv_of_nonneg (by omega)]
  exact Int.ediv_pos_of_pos_of_dvd hx (by omega) (by
   rw[← Int.dvd_natAbs,he]
   exact Int.natCast_dvd_natCast.2 (Nat.dvd_trans (Nat.gcd_dvd_right _ _) (Nat.gcd_dvd_right _ _)))
 unfold mpt at h ⊢
 by_cases h0:mw p q r=0
 ·rw[if_pos h0] at h;cases h
 ·rw[if_neg h0]
  have hg:=Wc4 (v:=mv p q r) h0
  by_cases h1:mw p q r < 0
  ·rw[if_pos h1]
   exact⟨pos (by omega) (by omega),F8 (neg v1) hg,F8 (neg v2) hg,F8 (neg v3) hg,(F8 (neg hw) hg).2⟩
  ·rw[if_neg h1]
   exact⟨pos (by omega) rfl,F8 v1 hg,F8 v2 hg,F8 v3 hg,(F8 hw hg).2⟩
theorem yd8 {p q r:Pln} (hp:Bd p) (hq:Bd q) (hr:Bd r):Pa6 ⟨p,q,r⟩=some (.tup [.agg (tX.row (mpt p q r).1),b (mpt p q r).2],[]):=by
 have hw:=Nd5 hp hq hr
 obtain⟨v1,v2,v3⟩:=Nd6 hp hq hr
 have e1:Ea4 r.n (M8 p.n q.n)=mw p q r:=by
  rw[qc6]
  unfold Ea4
  simp only[kb4,Pb7,Jd7]
  show W (dot r.n (E4 p.n q.n))=_
  rw[ke3,ua0 (hw.mono (by omega))]
 have e2:la8 (la8 (la8 ⟨0,0,0⟩ (N9 (M8 q.n r.n) p.b)) (N9 (M8 r.n p.n) q.b)) (N9 (M8 p.n q.n) r.b)=mv p q r:=by
  rw[qc6,qc6,qc6]
  unfold la8 N9
  simp only[kb4,Pb7,rd9,Int.zero_add]
  show (⟨W (mv p q r).x,W (mv p q r).y,W (mv p q r).z⟩:V3)=_
  rw[ua0 (v1.mono (by omega)),ua0 (v2.mono (by omega)),ua0 (v3.mono (by omega))]
 unfold Pa6
 simp only[e1,e2]
 have hb:∀ x∈[(mv p q r).x,(mv p q r).y,(mv p q r).z,mw p q r],x.natAbs≤9223372036854775807:=by
  intro x hx
  simp only[List.mem_cons,List.not_mem_nil,or_false] at hx
  unfold Sm at *
  rcases hx with rfl | rfl | rfl | rfl<;>omega
 have hf:([(mv p q r).x,(mv p q r).y,(mv p q r).z,mw p q r].foldl eu 0).natAbs=Nat.gcd (Nat.gcd (mv p q r).x.natAbs (mv p q r).y.natAbs) (Nat.gcd (mv p q r).z.natAbs (mw p q r).natAbs):=by
  rw[Yb4,← Fe4];rfl
 unfold mpt
 by_cases h0:mw p q r=0
 ·rw[bt (by rw[h0];rfl),if_pos h0]
  rfl
 ·have hz:(mw p q r==0)=false:=by simpa using h0
  rw[bf hz,if_neg h0]
  have hgp:=Wc4 (v:=mv p q r) h0
  have hgl:=Nd7 (v:=mv p q r) h0
  have hge:=ke2 _ (by simp) hb (by rw[hf];unfold gc at hgl;unfold Sm at hw;omega)
  have hgv:ub6 [(mv p q r).x,(mv p q r).y,(mv p q r).z,mw p q r]=gc (mv p q r) (mw p q r):=by
   unfold ub6;rw[hge,hf];rfl
  have hgg:ub7 [(mv p q r).x,(mv p q r).y,(mv p q r).z,mw p q r]=true:=by
   unfold ub7;rw[hge];rfl
  rw[hgv,bt hgg]
  generalize hG:gc (mv p q r) (mw p q r)=G at *
  have hGW:W (0 - G)=-G:=by unfold Sm at hw;rw[ya3 (by omega) (by omega)];omega
  have hGn:(-G==0)=false:=by simp;omega
  have hGp:(G==0)=false:=by simp;omega
  by_cases h1:mw p q r < 0
  ·rw[bt (decide_eq_true h1),if_pos h1]
   simp only[hGW]
   rw[bf hGn,bf hGn,bf hGn,bf hGn]
   simp only[Int.tdiv_neg,← Int.neg_tdiv]
   have neg:∀ {n x:Int},Sm n x→Sm n (-x):=fun h=>⟨by have:=h.2;omega,by have:=h.1;omega⟩
   rw[ua0 ((F8 (neg v1) hgp).mono (by omega)),ua0 ((F8 (neg v2) hgp).mono (by omega)),ua0 ((F8 (neg v3) hgp).mono (by omega)),ua0 ((F8 (neg hw) hgp).mono (by omega))]
   rfl
  ·rw[bf (decide_eq_false h1),if_neg h1,bf hGp,bf hGp,bf hGp,bf hGp]
   rw[ua0 ((F8 v1 hgp).mono (by omega)),ua0 ((F8 v2 hgp).mono (by omega)),ua0 ((F8 v3 hgp).mono (by omega)),ua0 ((F8 hw hgp).mono (by omega))]
   rfl
theorem ke5 {p q r:Pln} (hp:Bd p) (hq:Bd q) (hr:Bd r):Pa7 ⟨p,q,r⟩=mpt p q r:=by unfold Pa7;rw[yd8 hp hq hr];rfl
theorem ke6 {p q r:Pln} (hp:Bd p) (hq:Bd q) (hr:Bd r):Pa8 ⟨p,q,r⟩=true:=by unfold Pa8;rw[yd8 hp hq hr];rfl
theorem jd1 {p q r:Pln} (hp:Bd p) (hq:Bd q) (hr:Bd r):ab9 p q r=some (.tup [.agg (tX.row (mpt p q r).1),b (mpt p q r).2],[]):=by
 have hw:=Nd5 hp hq hr
 obtain⟨v1,v2,v3⟩:=Nd6 hp hq hr
 have e1:Da9 p.n (O4 q.n r.n)=mw p q r:=by
  rw[Yb6]
  unfold Da9
  simp only[kb4,Pb7,Jd7]
  show W (dot p.n (E4 q.n r.n))=_
  rw[show dot p.n (E4 q.n r.n)=mw p q r from rfl,ua0 (hw.mono (by omega))]
 have e2:Ya6 (Ya6 (M9 (O4 q.n r.n) p.b) (M9 (O4 r.n p.n) q.b)) (M9 (O4 p.n q.n) r.b)=mv p q r:=by
  rw[Yb6,Yb6,Yb6]
  unfold Ya6 M9
  simp only[kb4,Pb7,rd9]
  show (⟨W (mv p q r).x,W (mv p q r).y,W (mv p q r).z⟩:V3)=_
  rw[ua0 (v1.mono (by omega)),ua0 (v2.mono (by omega)),ua0 (v3.mono (by omega))]
 have neg:∀ {n x:Int},Sm n x→Sm n (-x):=fun h=>⟨by have:=h.2;omega,by have:=h.1;omega⟩
 have e3:M9 (mv p q r) (-1)=⟨-(mv p q r).x,-(mv p q r).y,-(mv p q r).z⟩:=by
  unfold M9
  have:∀ x:Int,x*-1=-x:=fun x=>by omega
  simp only[this]
  rw[ua0 ((neg v1).mono (by omega)),ua0 ((neg v2).mono (by omega)),ua0 ((neg v3).mono (by omega))]
 have ab:∀ {x:Int},Sm 300000000000000 x→(if W (0 - x) > x then W (0 - x) else x)=(x.natAbs:Int):=fun {x} h=>by
  have:W (0 - x)=-x:=by rw[show 0 - x=-x by omega];exact ua0 ((neg h).mono (by omega))
  rw[this]
  split<;>omega
 unfold ab9
 simp only[e1,e2,e3]
 rw[ab v1,ab v2,ab v3,ab (neg v1),ab (neg v2),ab (neg v3)]
 simp only[Int.natAbs_neg]
 unfold mpt
 by_cases h0:mw p q r=0
 ·rw[bt (by rw[h0];rfl),if_pos h0]
  rfl
 ·have hz:(mw p q r==0)=false:=by simpa using h0
  rw[bf hz,if_neg h0]
  have hgp:=Wc4 (v:=mv p q r) h0
  have hgl:=Nd7 (v:=mv p q r) h0
  have hw0:=hw
  unfold Sm at hw0
  have q1:((mv p q r).y.natAbs:Int)≤9223372036854775807:=by unfold Sm at v2;omega
  have k1:=yc6 ((mv p q r).x.natAbs:Int) ((mv p q r).y.natAbs:Int) (by omega) (by omega) q1
  have k2:=yc7 ((mv p q r).x.natAbs:Int) ((mv p q r).y.natAbs:Int) (by omega) (by omega) q1
  have c1:Int.gcd ((mv p q r).x.natAbs:Int) ((mv p q r).y.natAbs:Int)=Nat.gcd (mv p q r).x.natAbs (mv p q r).y.natAbs:=by simp[Int.gcd]
  have fin : ∀ w : Int, 0 < w → w.natAbs = (mw p q r).natAbs → N0 ((mv p q r).z.natAbs : Int) w = (Nat.gcd (mv p q r).z.natAbs (mw p q r).natAbs : Nat) ∧ N1 ((mv p q r).z.natAbs : Int) w = true ∧
    N0 (Nat.gcd (mv p q r).x.natAbs (mv p q r).y.natAbs:Nat) (Nat.gcd (mv p q r).z.natAbs (mw p q r).natAbs:Nat)=gc (mv p q r) (mw p q r)∧N1 (Nat.gcd (mv p q r).x.natAbs (mv p q r).y.natAbs:Nat) (Nat.gcd (mv p q r).z.natAbs (mw p q r).natAbs:Nat)=true:=by
   intro w hw1 hw2
   have l1:Nat.gcd (mv p q r).z.natAbs (mw p q r).natAbs≤(mw p q r).natAbs:=Nat.gcd_le_right _ (by omega)
   refine⟨?_,yc7 _ _ (by omega) (by omega) (by omega),?_,yc7 _ _ (by omega) (by omega) (by omega)⟩
   ·rw[yc6 _ _ (by omega) (by omega) (by omega)]
    have:Int.gcd ((mv p q r).z.natAbs:Int) w=Nat.gcd (mv p q r).z.natAbs (mw p q r).natAbs:=by unfold Int.gcd;rw[hw2];simp
    rw[this]
   ·rw[yc6 _ _ (by omega) (by omega) (by omega)]
    rfl
  by_cases h1:mw p q r < 0
  ·rw[bt (decide_eq_true h1),if_pos h1]
   have hWw:W (0 - mw p q r)=-mw p q r:=by rw[ya3 (by omega) (by omega)];omega
   rw[hWw]
   obtain⟨f1,f2,f3,f4⟩:=fin (-mw p q r) (by omega) (by omega)
   simp only[k1,k2,c1,f1,f2,f3,f4]
   generalize gc (mv p q r) (mw p q r)=G at *
   have hGp:(G==0)=false:=by simp;omega
   simp only[hGp]
   rw[ua0 ((F8 (neg v1) hgp).mono (by omega)),ua0 ((F8 (neg v2) hgp).mono (by omega)),ua0 ((F8 (neg v3) hgp).mono (by omega)),ua0 ((F8 (neg hw) hgp).mono (by omega))]
   rfl
  ·rw[bf (decide_eq_false h1),if_neg h1]
   obtain⟨f1,f2,f3,f4⟩:=fin (mw p q r) (by omega) rfl
   simp only[k1,k2,c1,f1,f2,f3,f4]
   generalize gc (mv p q r) (mw p q r)=G at *
   have hGp:(G==0)=false:=by simp;omega
   simp only[hGp]
   rw[ua0 ((F8 v1 hgp).mono (by omega)),ua0 ((F8 v2 hgp).mono (by omega)),ua0 ((F8 v3 hgp).mono (by omega)),ua0 ((F8 hw hgp).mono (by omega))]
   rfl
theorem Xd3 {p q r:Pln} (hp:Bd p) (hq:Bd q) (hr:Bd r):bb0 p q r=mpt p q r:=by unfold bb0;rw[jd1 hp hq hr];rfl
theorem Xd4 {p q r:Pln} (hp:Bd p) (hq:Bd q) (hr:Bd r):bb1 p q r=true:=by unfold bb1;rw[jd1 hp hq hr];rfl
end Go.Ev.Ce
namespace Go.Ev.Ce
open Go Go.Ev Go.Ev.L Go.Proofs
noncomputable def inn (l:List Pln) (x:Pt):Bool:=l.all fun p=>!decide (rm p x < 0)
theorem yd9 (l:List Pln) (x:Pt):inn l x=!l.any fun p=>decide (rm p x < 0):=by unfold inn;rw[List.not_any_eq_all_not]
theorem ue4 (p:Pln) (x:Pt):Ta3 ⟨p.n.x,p.n.y,p.n.z,p.b,x.px,x.py,x.pz,x.pw⟩=⟨decide (rm p x < 0)⟩:=by
 show na4.mk (decide (la9 p x < 0))=_
 rw[Wc3]
theorem Xd5 (l:List Pln) (x:Pt) (hl:l.length≤1000000000):P1 ⟨l,x.px,x.py,x.pz,x.pw⟩=⟨1,if l.any (fun p=>decide (rm p x < 0)) then ((l.findIdx (fun p=>decide (rm p x < 0)):Nat):Int) else -1⟩:=by
 have h:=ib4 (step:=D1 ⟨l,(l.length:Int),x.px,x.py,x.pz,x.pw⟩) (mk:=fun j=>(⟨(j:Int)⟩:m9)) (c:=fun p=>decide (rm p x < 0)) (u:=1) (fin:=2) tP l hl
  (fun j hj=>by
   simp only[D1,A7,Int.toNat_natCast,ue4,p4 hj (by omega)]
   rw[bt (Cb7 hj),bt (f7 hj)])
  (by simp only[D1,A7];rw[bf (sb9 (Nat.lt_irrefl _))]) 0 (Nat.zero_le _)
 rw[List.drop_zero] at h
 unfold P1 B5
 simp only[m8,o0]
 rw[show (⟨0⟩:m9)=⟨((0:Nat):Int)⟩ from rfl,h]
 split
 ·simp only[Nat.zero_add];rfl
 ·rfl
theorem Oc2 (l:List Pln) (x:Pt) (hl:l.length≤1000000000):za8 l x=some (b (inn l x),[]):=by
 unfold za8 W5 w8
 simp only[m8,o0,Xd5 l x hl,yd9]
 split
 ·rename_i h
  rw[h,show decide (((l.findIdx (fun p=>decide (rm p x < 0)):Nat):Int)≥0)=true from decide_eq_true (by omega)];rfl
 ·rename_i h
  rw[Bool.not_eq_true] at h
  rw[h];rfl
theorem yc8 (l:List Pln) (x:Pt) (hl:l.length≤1000000000):S7 l x=inn l x:=by unfold S7;rw[Oc2 l x hl];rfl
theorem yc9 (l:List Pln) (x:Pt) (hl:l.length≤1000000000):S8 l x=true:=by unfold S8;rw[Oc2 l x hl];rfl
theorem fe4 (l:List Pln) (x:Pt) (hl:l.length≤1000000000):Eb0 l x=some (b (inn l x),[]):=by
 have h:=kb5 (step:=Oa8 ⟨l,x.px,x.py,x.pz,x.pw⟩) (mk:=fun j=>(⟨(j:Int)⟩:ma2)) (c:=fun p=>decide (rm p x < 0)) (u:=1) (fin:=2) tP l hl
  (fun j hj=>by
   simp only[Oa8,Ga3,Int.toNat_natCast,yd7,p4 hj (by omega)]
   rw[bt (Cb7 hj),bt (f7 hj)])
  (by simp only[Oa8,Ga3];rw[bf (sb9 (Nat.lt_irrefl _))]) 0 (Nat.zero_le _)
 rw[List.drop_zero] at h
 unfold Eb0
 simp only[m8,o0,yd9]
 rw[show (⟨0⟩:ma2)=⟨((0:Nat):Int)⟩ from rfl,h]
 split
 ·rename_i h;rw[h];rfl
 ·rename_i h;rw[Bool.not_eq_true] at h;rw[h];rfl
theorem Fe5 (l:List Pln) (x:Pt) (hl:l.length≤1000000000):ob9 l x=inn l x:=by unfold ob9;rw[fe4 l x hl];rfl
theorem Fe6 (l:List Pln) (x:Pt) (hl:l.length≤1000000000):pb0 l x=true:=by unfold pb0;rw[fe4 l x hl];rfl
def eqX (x q:Pt):Bool:=q.px==x.px&&(q.py==x.py&&(q.pz==x.pz&&(q.pw==x.pw&&true)))
theorem Xd6 (x q:Pt):eqX x q=true↔q=x:=by
 unfold eqX
 simp only[Bool.and_true,Bool.and_eq_true,beq_iff_eq]
 exact⟨fun⟨h1,h2,h3,h4⟩=>by cases q;cases x;simp_all,fun h=>by subst h;exact⟨rfl,rfl,rfl,rfl⟩⟩
def Yb7 (l:List Pt) (x:Pt):Bool:=l.any (eqX x)
theorem jd2 (l:List Pt) (x:Pt) (hl:l.length≤1000000000):Oa9 l x=some (b (Yb7 l x),[]):=by
 have h:=kb5 (step:=sa2 ⟨l,x.px,x.py,x.pz,x.pw⟩) (mk:=fun j=>(⟨(j:Int)⟩:S5)) (c:=eqX x) (u:=1) (fin:=2) tX l hl
  (fun j hj=>by
   simp only[sa2,na1,Int.toNat_natCast,p4 hj (by omega)]
   rw[bt (Cb7 hj),bt (f7 hj)]
   rfl)
  (by simp only[sa2,na1];rw[bf (sb9 (Nat.lt_irrefl _))]) 0 (Nat.zero_le _)
 rw[List.drop_zero] at h
 unfold Oa9
 simp only[m8,o0]
 rw[show (⟨0⟩:S5)=⟨((0:Nat):Int)⟩ from rfl,h]
 unfold Yb7
 split
 ·rename_i h;rw[h];rfl
 ·rename_i h;rw[Bool.not_eq_true] at h;rw[h];rfl
theorem Xd7 (l:List Pt) (x:Pt) (hl:l.length≤1000000000):Ea0 l x=Yb7 l x:=by unfold Ea0;rw[jd2 l x hl];rfl
theorem Xd8 (l:List Pt) (x:Pt) (hl:l.length≤1000000000):Ea1 l x=true:=by unfold Ea1;rw[jd2 l x hl];rfl
def smb (n x:Int):Bool:=!decide (x < -n)&&!decide (x > n)
theorem Yb8 (n x:Int):smb n x=true↔Sm n x:=by unfold smb Sm;simp only[Bool.and_eq_true,Bool.not_eq_true',decide_eq_false_iff_not];omega
theorem zc0 (n:Int) (l:List Int) (hn:0≤n∧n≤1000000000) (hl:l.length≤1000000000):ta2 n l=some (b (l.all (smb n)),[]):=by
 have hW:W (0 - n)=-n:=by rw[ya3 (by omega) (by omega)];omega
 have h:=kb5 (step:=fa2 ⟨n,l,(l.length:Int)⟩) (mk:=fun j=>(⟨(j:Int)⟩:G9)) (c:=fun x=>!smb n x) (u:=1) (fin:=2) tI l hl
  (fun j hj=>by
   simp only[fa2,ba2,Int.toNat_natCast,p4 hj (by omega),hW]
   rw[bt (Cb7 hj),bt (f7 hj)]
   unfold smb
   cases decide (gL tI l j < -n)<;>cases decide (gL tI l j > n)<;>rfl)
  (by simp only[fa2,ba2];rw[bf (sb9 (Nat.lt_irrefl _))]) 0 (Nat.zero_le _)
 rw[List.drop_zero] at h
 unfold ta2
 simp only[m8,o0]
 rw[show (⟨0⟩:G9)=⟨((0:Nat):Int)⟩ from rfl,h]
 have e:(l.any fun x=>!smb n x)=!l.all (smb n):=by rw[List.not_all_eq_any_not]
 rw[e]
 cases l.all (smb n)<;>rfl
theorem fc7 (n:Int) (l:List Int) (hn:0≤n∧n≤1000000000) (hl:l.length≤1000000000):ka1 n l=l.all (smb n):=by unfold ka1;rw[zc0 n l hn hl];rfl
theorem fc8 (n:Int) (l:List Int) (hn:0≤n∧n≤1000000000) (hl:l.length≤1000000000):ka2 n l=true:=by unfold ka2;rw[zc0 n l hn hl];rfl
theorem jd3 {n:Int} (h:Sm 1000000000000000000 n):wa5 n=(n.natAbs:Int):=by
 unfold wa5
 obtain⟨h1,h2⟩:=h
 rw[ya3 (by omega) (by omega)]
 split<;>omega
theorem Yb9 {n:Int} (h:Sm 1000000000000000000 n):sa3 n=some (i (n.natAbs:Int),[]):=by
 unfold sa3
 obtain⟨h1,h2⟩:=h
 rw[ya3 (by omega) (by omega)]
 by_cases h:n < 0
 ·rw[bt (decide_eq_true h)];congr 3;omega
 ·rw[bf (decide_eq_false h)];congr 3;omega
theorem Fb3 {n:Int} (h:Sm 1000000000000000000 n):ja3 n=(n.natAbs:Int):=by unfold ja3;rw[Yb9 h];rfl
theorem Fb4 {n:Int} (h:Sm 1000000000000000000 n):ja4 n=true:=by unfold ja4;rw[Yb9 h];rfl
def g3 (v:V3):Int:=(Nat.gcd (Nat.gcd v.x.natAbs v.y.natAbs) v.z.natAbs:Nat)
theorem Nd8 (g n:Nat):eu (g:Int) (n:Int)=(Nat.gcd g n:Nat):=by rw[Kd0 (by omega) (by omega)];rfl
theorem Hc7 (P:V8) (g n:Nat) (hn:n≤1000000000000000000):lp (R8 P) ⟨(g:Int),(n:Int)⟩=(1,⟨(Nat.gcd g n:Nat),0⟩):=by
 have:=jc2 (step:=R8 P) (mk:=fun g n=>(⟨g,n⟩:I1)) (fun g n h=>by
  have h0:n≠0:=by omega
  simp[R8,X7,ab0,h,h0]) (fun g=>by simp[R8,X7,ab0]) (g:Int) (n:Int) (by omega) (by omega) (by omega)
 rw[this,Nd8]
theorem td8 (l:List Int) (hl:l.length≤1000000000) (hb:∀ x∈l,Sm 1000000000000000000 x):na7 l=some (i (l.foldl (fun g x=>Nat.gcd g x.natAbs) 0:Nat),[]):=by
 have h := Ib8 (step := ba3 ⟨(l.length : Int)⟩) (mk := fun j (a : Nat) => (⟨(a : Int), l, (j : Int)⟩ : E6)) (f := fun g x => Nat.gcd g x.natAbs) (fin := 2) tI l (fun _ _ => True) hl (fun j a hj _ => ⟨by
   have hm:=hb _ (dc1 tI hj)
   have hne:(gL tI l j==(-9223372036854775808:Int))=false:=by
    have:=hm.1
    rw[beq_eq_false_iff_ne];omega
   have hs:(gL tI l j).natAbs≤1000000000000000000:=by obtain⟨h1,h2⟩:=hm;omega
   simp only[ba3,X8,Int.toNat_natCast,m8,o0,jd3 hm,Hc7 _ _ _ hs,p4 hj (by omega)]
   rw[bt (Cb7 hj),bt (f7 hj),bf hne]
   rfl,trivial⟩) (fun a _=>by simp only[ba3,X8];rw[bf (sb9 (Nat.lt_irrefl _))]) 0 (Nat.zero_le _) 0 trivial
 have h:=h.1
 rw[List.drop_zero] at h
 unfold na7
 simp only[m8,o0]
 rw[show (⟨0,l,0⟩:E6)=⟨((0:Nat):Int),l,((0:Nat):Int)⟩ from rfl,h]
 rfl
def okp (p:Pln):Bool:=[p.n.x,p.n.y,p.n.z].all (smb 4608)&&(g3 p.n==1&&[p.b].all (smb 2097152))
theorem ke7 (p:Pln):Bd p↔[p.n.x,p.n.y,p.n.z].all (smb 4608)=true∧[p.b].all (smb 2097152)=true:=by
 simp only[List.all_cons,List.all_nil,Bool.and_true,Bool.and_eq_true,Yb8,Sm]
 exact⟨fun h=>⟨⟨⟨h.x1,h.x2⟩,⟨h.y1,h.y2⟩,h.z1,h.z2⟩,h.b1,h.b2⟩,fun⟨⟨⟨a,b⟩,⟨c,d⟩,e,f⟩,g,h⟩=>⟨a,b,c,d,e,f,g,h⟩⟩
theorem Wc5 {p:Pln} (h:okp p=true):Bd p:=by
 unfold okp at h
 rw[Bool.and_eq_true,Bool.and_eq_true] at h
 exact (ke7 p).2 ⟨h.1,h.2.2⟩
theorem sm3 {v:V3} (h:[v.x,v.y,v.z].all (smb 4608)=true):Sm 4608 v.x∧Sm 4608 v.y∧Sm 4608 v.z:=by
 simpa only[List.all_cons,List.all_nil,Bool.and_true,Bool.and_eq_true,Yb8] using h
theorem jd4 (p:Pln):Aa0 p=some (b (okp p),[]):=by
 unfold Aa0 okp
 have l3:[p.n.x,p.n.y,p.n.z].length≤1000000000:=by simp
 have l1:[p.b].length≤1000000000:=by simp
 simp only[fc7 4608 _ (by omega) l3,fc8 4608 _ (by omega) l3,fc7 2097152 _ (by omega) l1,fc8 2097152 _ (by omega) l1]
 cases hw:[p.n.x,p.n.y,p.n.z].all (smb 4608) with
 | false=>rfl
 | true =>
  obtain⟨h1,h2,h3⟩:=sm3 hw
  have hd:=td8 [p.n.x,p.n.y,p.n.z] l3 (by
   intro x hx
   simp only[List.mem_cons,List.not_mem_nil,or_false] at hx
   rcases hx with rfl | rfl | rfl
   ·exact h1.mono (by omega)
   ·exact h2.mono (by omega)
   ·exact h3.mono (by omega))
  have hg:([p.n.x,p.n.y,p.n.z].foldl (fun g x=>Nat.gcd g x.natAbs) 0:Nat)=Nat.gcd (Nat.gcd p.n.x.natAbs p.n.y.natAbs) p.n.z.natAbs:=by
   simp only[List.foldl_cons,List.foldl_nil,Nat.gcd_zero_left]
  have hp:Ba9 [p.n.x,p.n.y,p.n.z]=g3 p.n:=by unfold Ba9;rw[hd,hg];rfl
  have hgd:Ca0 [p.n.x,p.n.y,p.n.z]=true:=by unfold Ca0;rw[hd];rfl
  rw[hp,hgd]
  cases g3 p.n==1<;>rfl
theorem Xd9 (p:Pln):Na8 p=okp p:=by unfold Na8;rw[jd4 p];rfl
theorem Yd0 (p:Pln):Na9 p=true:=by unfold Na9;rw[jd4 p];rfl
theorem fc9 (P:ea6) (g n:Nat) (hn:n≤1000000000000000000):lp (aa3 P) ⟨(g:Int),(n:Int)⟩=(1,⟨(Nat.gcd g n:Nat),0⟩):=by
 have:=jc2 (step:=aa3 P) (mk:=fun g n=>(⟨g,n⟩:N8)) (fun g n h=>by
  have h0:n≠0:=by omega
  simp[aa3,sa4,ab0,h,h0]) (fun g=>by simp[aa3,sa4,ab0]) (g:Int) (n:Int) (by omega) (by omega) (by omega)
 rw[this,Nd8]
theorem Wc6 {v : V3} (h1 : Sm 1000000000000000000 v.x) (h2 : Sm 1000000000000000000 v.y) (h3 : Sm 1000000000000000000 v.z) :
  bb3 v=if g3 v=0 then some (.tup [.agg (tV.row ⟨0,0,0⟩),i 0],[]) else some (.tup [.agg (tV.row ⟨W (Int.tdiv v.x (g3 v)),W (Int.tdiv v.y (g3 v)),W (Int.tdiv v.z (g3 v))⟩),i (g3 v)],[]):=by
 have ne:∀ {x:Int},Sm 1000000000000000000 x→(x==(-9223372036854775808:Int))=false:=fun {x} h=>by
  have:=h.1
  rw[beq_eq_false_iff_ne];omega
 have bd:∀ {x:Int},Sm 1000000000000000000 x→x.natAbs≤1000000000000000000:=fun {x} h=>by obtain⟨h1,h2⟩:=h;omega
 have l1:=fc9 ⟨0,v.x,v.y,v.z,v.x,v.y,v.z⟩ 0 v.x.natAbs (bd h1)
 rw[Nat.gcd_zero_left] at l1
 have l2:=fc9 ⟨1,v.x,v.y,v.z,v.x,v.y,v.z⟩ v.x.natAbs v.y.natAbs (bd h2)
 have l3:=fc9 ⟨2,v.x,v.y,v.z,v.x,v.y,v.z⟩ (Nat.gcd v.x.natAbs v.y.natAbs) v.z.natAbs (bd h3)
 unfold bb3
 simp only[Fb3 h1,Fb3 h2,Fb3 h3,Fb4 h1,Fb4 h2,Fb4 h3]
 rw[show (⟨0,(v.x.natAbs:Int)⟩:N8)=⟨((0:Nat):Int),(v.x.natAbs:Int)⟩ from rfl]
 simp only[l1,l2,l3,ne h1,ne h2,ne h3]
 rw[show ((Nat.gcd (Nat.gcd v.x.natAbs v.y.natAbs) v.z.natAbs:Nat):Int)=g3 v from rfl]
 by_cases h:g3 v=0
 ·rw[if_pos h,show (g3 v==0)=true from by rw[h];rfl];rfl
 ·rw[if_neg h,show (g3 v==0)=false from by rw[beq_eq_false_iff_ne];exact h];rfl
theorem zc1 {v:V3} (h1:Sm 1000000000000000000 v.x) (h2:Sm 1000000000000000000 v.y) (h3:Sm 1000000000000000000 v.z):(Da1 v).2=g3 v:=by
 unfold Da1
 rw[Wc6 h1 h2 h3]
 split
 ·rename_i h;rw[h];rfl
 ·rfl
theorem ke8 {v:V3} (h1:Sm 1000000000000000000 v.x) (h2:Sm 1000000000000000000 v.y) (h3:Sm 1000000000000000000 v.z) (h:g3 v≠0):Da1 v=(⟨W (Int.tdiv v.x (g3 v)),W (Int.tdiv v.y (g3 v)),W (Int.tdiv v.z (g3 v))⟩,g3 v):=by
 unfold Da1
 rw[Wc6 h1 h2 h3,if_neg h]
 rfl
theorem Nd9 {v:V3} (h1:Sm 1000000000000000000 v.x) (h2:Sm 1000000000000000000 v.y) (h3:Sm 1000000000000000000 v.z):bb4 v=true:=by
 unfold bb4
 rw[Wc6 h1 h2 h3]
 split<;>rfl
theorem Oc3 (p:Pln):Pa0 p=some (b (okp p),[]):=by
 unfold Pa0 okp
 cases hw:[p.n.x,p.n.y,p.n.z].all (smb 4608) with
 | false =>
  simp only[List.all_cons,List.all_nil,Bool.and_true,smb] at hw
  cases h1:decide (p.n.x < -4608)<;>cases h2:decide (p.n.x > 4608)<;>cases h3:decide (p.n.y < -4608)<;>cases h4:decide (p.n.y > 4608)<;>cases h5:decide (p.n.z < -4608)<;>cases h6:decide (p.n.z > 4608)<;>simp only[h1,h2,h3,h4,h5,h6] at hw ⊢<;>first | rfl | cases hw
 | true =>
  obtain⟨h1,h2,h3⟩:=sm3 hw
  rw[bf (decide_eq_false (by have:=h1.1;omega)),bf (decide_eq_false (by have:=h1.2;omega)),bf (decide_eq_false (by have:=h2.1;omega)),bf (decide_eq_false (by have:=h2.2;omega)),bf (decide_eq_false (by have:=h3.1;omega)),bf (decide_eq_false (by have:=h3.2;omega))]
  have k1:=h1.mono (m:=1000000000000000000) (by omega)
  have k2:=h2.mono (m:=1000000000000000000) (by omega)
  have k3:=h3.mono (m:=1000000000000000000) (by omega)
  rw[bt (Nd9 k1 k2 k3),zc1 k1 k2 k3]
  cases g3 p.n==1 with
  | false=>rfl
  | true =>
   simp only[List.all_cons,List.all_nil,Bool.and_true,smb,Bool.true_and]
   rw[p5]
   by_cases ha:p.b < -2097152
   ·rw[bf (decide_eq_false (by omega)),show decide (p.b < -2097152)=true from decide_eq_true ha];rfl
   ·rw[bt (decide_eq_true (by omega)),show decide (p.b < -2097152)=false from decide_eq_false ha]
    congr 3
    by_cases hc:p.b≤2097152
    ·rw[decide_eq_true hc,decide_eq_false (by omega)];rfl
    ·rw[decide_eq_false hc,decide_eq_true (by omega)];rfl
theorem Od0 (p:Pln):Pa1 p=okp p:=by unfold Pa1;rw[Oc3 p];rfl
theorem jd5 (p:Pln):Pa2 p=true:=by unfold Pa2;rw[Oc3 p];rfl
def chk (l:List Pln):Int:=if (l.length:Int) > 48 then 2 else if l.all okp then 0 else 12
theorem jd6 (l:List Pln) (hl:l.length≤1000000000):Ha8 l=some (i (chk l),[]):=by
 have hk1:∀ p,ta3 p=some (b (!okp p),[]):=fun p=>by unfold ta3;rw[Yd0,Xd9];rfl
 have hp1:∀ p,Ha6 p=!okp p:=fun p=>by unfold Ha6;rw[hk1];rfl
 have hg1:∀ p,Ha7 p=true:=fun p=>by unfold Ha7;rw[hk1];rfl
 have h:=ib4 (step:=D2 ⟨l,(l.length:Int)⟩) (mk:=fun j=>(⟨(j:Int)⟩:n3)) (c:=fun p=>!okp p) (u:=1) (fin:=2) tP l hl
  (fun j hj=>by
   simp only[D2,A8,Int.toNat_natCast,hp1,hg1,p4 hj (by omega)]
   rw[bt (Cb7 hj),bt (f7 hj),p5])
  (by simp only[D2,A8];rw[bf (sb9 (Nat.lt_irrefl _))]) 0 (Nat.zero_le _)
 rw[List.drop_zero] at h
 have e:(l.any fun x=>!okp x)=!l.all okp:=by rw[List.not_all_eq_any_not]
 unfold Ha8 W6 w9 da4 B6 chk
 simp only[m8,o0]
 rw[show (⟨0⟩:n3)=⟨((0:Nat):Int)⟩ from rfl,h,e]
 by_cases hn:(l.length:Int) > 48
 ·rw[bt (decide_eq_true hn),if_pos hn]
 ·rw[bf (decide_eq_false hn),if_neg hn]
  cases l.all okp with
  | true=>rfl
  | false =>
   simp only[Bool.not_false,if_true,Nat.zero_add]
   show sl true (sl (Nat.beq 1 1) (sl (decide (((l.findIdx fun p=>!okp p:Nat):Int)≥0)) _ _) _) _=_
   rw[show decide (((l.findIdx fun p=>!okp p:Nat):Int)≥0)=true from decide_eq_true (by omega)]
   rfl
theorem Wc7 (l:List Pln) (hl:l.length≤1000000000):wa6 l=chk l:=by unfold wa6;rw[jd6 l hl];rfl
theorem Wc8 (l:List Pln) (hl:l.length≤1000000000):wa7 l=true:=by unfold wa7;rw[jd6 l hl];rfl
theorem Oc4 (l:List Pln) (hl:l.length≤1000000000):Pa3 l=some (i (chk l),[]):=by
 have h:=kb5 (step:=sa5 ⟨l⟩) (mk:=fun j=>(⟨(j:Int)⟩:S6)) (c:=fun p=>!okp p) (u:=1) (fin:=2) tP l hl
  (fun j hj=>by
   simp only[sa5,na2,Int.toNat_natCast,Od0,jd5,p4 hj (by omega)]
   rw[bt (Cb7 hj),bt (f7 hj),p5])
  (by simp only[sa5,na2];rw[bf (sb9 (Nat.lt_irrefl _))]) 0 (Nat.zero_le _)
 rw[List.drop_zero] at h
 have e:(l.any fun x=>!okp x)=!l.all okp:=by rw[List.not_all_eq_any_not]
 unfold Pa3 chk
 simp only[m8,o0]
 rw[show (⟨0⟩:S6)=⟨((0:Nat):Int)⟩ from rfl,h,e]
 by_cases hn:(l.length:Int) > 48
 ·rw[bt (decide_eq_true hn),if_pos hn]
 ·rw[bf (decide_eq_false hn),if_neg hn]
  cases l.all okp<;>rfl
theorem zc2 (l:List Pln) (hl:l.length≤1000000000):Ea2 l=chk l:=by unfold Ea2;rw[Oc4 l hl];rfl
theorem zc3 (l:List Pln) (hl:l.length≤1000000000):Ea3 l=true:=by unfold Ea3;rw[Oc4 l hl];rfl
theorem jd7 {l:List Pln}:chk l=0↔l.length≤48∧∀ p∈l,okp p=true:=by
 unfold chk
 by_cases hn:(l.length:Int) > 48
 ·rw[if_pos hn]
  exact⟨fun h=>absurd h (by decide),fun h=>by omega⟩
 ·rw[if_neg hn]
  cases h:l.all okp with
  | true=>exact⟨fun _=>⟨by omega,List.all_eq_true.1 h⟩,fun _=>rfl⟩
  | false=>exact⟨fun h=>absurd h (by decide),fun h'=>by rw[List.all_eq_true.2 h'.2] at h;cases h⟩
end Go.Ev.Ce
namespace Go.Ev.Ce
open Go Go.Ev Go.Ev.L Go.Proofs
theorem btD {p:Prop} {inst:Decidable p} (h:p) {α:Type} (t e:α):sl (@decide p inst) t e=t:=bt (decide_eq_true h) t e
theorem bfD {p:Prop} {inst:Decidable p} (h:¬ p) {α:Type} (t e:α):sl (@decide p inst) t e=e:=bf (decide_eq_false h) t e
theorem o2 {j n:Nat} (h:j < n):(j:Int) < (n:Int):=Int.ofNat_lt.2 h
theorem U5 {j n:Nat} (h:¬ j < n):¬ (j:Int) < (n:Int):=fun h'=>h (Int.ofNat_lt.1 h')
theorem Ia8 {σ τ α : Type} {step : σ → Stp σ} {mk : Nat → τ → σ} {f : α → List α → τ → τ} {g : List α → τ → τ} {fin : τ → Nat} (l : List α) (I : Nat → τ → Prop) (hl : l.length ≤ 1000000000)
  (g0:∀ a,g [] a=a) (g1:∀ x r a,g (x::r) a=g r (f x r a))
  (h:∀ j a (hj:j < l.length),I j a→step (mk j a)=.next (mk (j+1) (f l[j] (l.drop (j+1)) a))∧I (j+1) (f l[j] (l.drop (j+1)) a))
  (hf:∀ j a,l.length≤j→I j a→step (mk j a)=.exit (fin a)) (j0:Nat) (a:τ) (hi:I j0 a) :
  lp step (mk j0 a)=(fin (g (l.drop j0) a),mk (max j0 l.length) (g (l.drop j0) a))∧I (max j0 l.length) (g (l.drop j0) a):=by
 have key:=Cb8 (step:=step) (I:=fun m s=>∃ j b,m=l.length - j∧max j l.length=max j0 l.length∧s=mk j b∧I j b∧g (l.drop j) b=g (l.drop j0) a)
  (Q:=fun u s=>u=fin (g (l.drop j0) a)∧s=mk (max j0 l.length) (g (l.drop j0) a)∧I (max j0 l.length) (g (l.drop j0) a)) (fun m s ⟨j,b,hm,hj,hs,hb,he⟩=>by
   subst hs
   by_cases hlt:j < l.length
   ·obtain⟨h1,h2⟩:=h j b hlt hb
    refine .inr ⟨_,l.length - (j+1),by omega,h1,j+1,_,rfl,by omega,rfl,h2,?_⟩
    rw[← he,List.drop_eq_getElem_cons hlt,g1]
   ·have hd:l.drop j=[]:=List.drop_eq_nil_of_le (by omega)
    rw[hd,g0] at he
    have hj':j=max j0 l.length:=by omega
    subst he
    rw[← hj']
    exact .inl ⟨_,hf j _ (by omega) hb,rfl,rfl,hb⟩) (l.length - j0) (mk j0 a) (by omega) ⟨j0,a,rfl,rfl,rfl,hi,rfl⟩
 exact⟨Prod.ext key.1 key.2.1,key.2.2⟩
noncomputable def Ra0 (r:List Pln) (p q:Pln) (out:List Pt) (s:Pln):List Pt :=
 if (mpt p q s).2&&(!Yb7 out (mpt p q s).1&&inn r (mpt p q s).1) then out++[(mpt p q s).1] else out
noncomputable def mb4 (r:List Pln) (p q:Pln) (l:List Pln) (out:List Pt):List Pt:=l.foldl (Ra0 r p q) out
noncomputable def Xa5 (r:List Pln) (p:Pln):List Pln→List Pt→List Pt
 | [],out=>out
 | q::l,out=>Xa5 r p l (mb4 r p q l out)
noncomputable def Hc8 (r:List Pln):List Pln→List Pt→List Pt
 | [],out=>out
 | p::l,out=>Hc8 r l (Xa5 r p l out)
noncomputable def cor (r:List Pln):List Pt:=Hc8 r r []
def Bds (r:List Pln):Prop:=∀ p∈r,Bd p
theorem gc0 (r:List Pln) (p q:Pln) (out:List Pt) (s:Pln):(Ra0 r p q out s).length≤out.length+1:=by
 unfold Ra0
 split
 ·simp
 ·omega
theorem Zb0 (r:List Pln) (p q:Pln):∀ (l:List Pln) (out:List Pt),(mb4 r p q l out).length≤out.length+l.length
 | [],out=>Nat.le_refl _
 | s::l,out=>by
  have h1:=gc0 r p q out s
  have h2:=Zb0 r p q l (Ra0 r p q out s)
  show (mb4 r p q l (Ra0 r p q out s)).length≤_
  simp only[List.length_cons]
  omega
theorem zc4 (r:List Pln) (p:Pln):∀ (l:List Pln) (out:List Pt),l.length≤200→(Xa5 r p l out).length≤out.length+200*l.length
 | [],out,_=>by simp[Xa5]
 | q::l,out,h=>by
  simp only[List.length_cons] at h ⊢
  have h1:=Zb0 r p q l out
  have h2:=zc4 r p l (mb4 r p q l out) (by omega)
  show (Xa5 r p l (mb4 r p q l out)).length≤_
  omega
theorem jd8 (r:List Pln):∀ (l:List Pln) (out:List Pt),l.length≤200→(Hc8 r l out).length≤out.length+40000*l.length
 | [],out,_=>by simp[Hc8]
 | p::l,out,h=>by
  simp only[List.length_cons] at h ⊢
  have h1:=zc4 r p l out (by omega)
  have h2:=jd8 r l (Xa5 r p l out) (by omega)
  show (Hc8 r l (Xa5 r p l out)).length≤_
  omega
theorem Wc9 (r:List Pln) (_:Bds r) (hr:r.length≤200):(cor r).length≤8000000:=by
 have:=jd8 r r [] hr
 rw[List.length_nil] at this
 show (Hc8 r r []).length≤_
 omega
noncomputable def ph (out:List Pt):Nat:=match out with
 | []=>0
 | _::_=>1
theorem jd9 (x:Pt):Yb7 [] x=false:=rfl
theorem Zb1 {α:Type} (t:Ty α) (l:List α) (n k:Nat):gL t (l.drop n) k=gL t l (n+k):=by simp[gL,List.getD_eq_getElem?_getD,List.getElem?_drop]
theorem kd0 {n:Nat} {l:List Pt} (hn:n=l.length) (h:l.length≤1000000000):(Nat.beq n (len (bL tX l))&&Nat.ble ((n+1)*32) room)=true:=by
 subst hn
 rw[O7,Nat.beq_refl,Bool.true_and]
 exact ma1 (by omega)
theorem zd0 (l:List Pt) (x:Pt):app (bL tX l) [[i x.px,i x.py,i x.pz,i x.pw]]=bL tX (l++[x]):=Ga1 tX l [x]
@[reducible] noncomputable def Kb9 (k:Nat) (out:List Pt):o9:=⟨ph out,(k:Int),out.length,bL tX out⟩
theorem ke9 (l:List Pt):slR tX (bL tX l) 0 l.length=l:=Pb5 tX l
theorem Yd1 (r : List Pln) (hb : Bds r) (hr : r.length ≤ 200) (a c k : Nat) (ha : a < r.length) (hc : c < r.length) (out : List Pt) (ho : out.length ≤ 1000000000) (hk : k < r.length) :
  L1 ⟨r,a,c⟩ (Kb9 k out)=.next (Kb9 (k+1) (Ra0 r r[a] r[c] out r[k])):=by
 have hin:∀ x,ob9 r x=inn r x:=fun x=>Fe5 r x (by omega)
 have hig:∀ x,pb0 r x=true:=fun x=>Fe6 r x (by omega)
 have hth:∀ x,Ea0 out x=Yb7 out x:=fun x=>Xd7 out x ho
 have htg:∀ x,Ea1 out x=true:=fun x=>Xd8 out x ho
 have hme:=Xd3 (hb _ (List.getElem_mem ha)) (hb _ (List.getElem_mem hc)) (hb _ (List.getElem_mem hk))
 have hmg:=Xd4 (hb _ (List.getElem_mem ha)) (hb _ (List.getElem_mem hc)) (hb _ (List.getElem_mem hk))
 unfold L1
 cases out with
 | nil =>
  show N2 Stp.next Stp.exit Stp.fail _ (Kb9 k [])=_
  simp only[N2,Kb9,Int.toNat_natCast,m8,K6,Oa7 tP ha,Oa7 tP hc,Oa7 tP hk,hme,hmg,hin,hig,hth,htg,p4 hk (by omega)]
  rw[btD (o2 hk),bt (f7 ha),bt (f7 hc),bt (f7 hk),p5]
  unfold Ra0
  rw[jd9]
  cases (mpt r[a] r[c] r[k]).2 with
  | false=>rfl
  | true =>
   cases inn r (mpt r[a] r[c] r[k]).1 with
   | false=>rfl
   | true=>rfl
 | cons o os =>
  show N3 Stp.next Stp.exit Stp.fail _ (Kb9 k (o::os))=_
  simp only[N3,Kb9,Int.toNat_natCast,m8,K6,Oa7 tP ha,Oa7 tP hc,Oa7 tP hk,hme,hmg,hin,hig,ke9,Pb6,hth,htg,p4 hk (by omega)]
  rw[btD (o2 hk),bt (f7 ha),bt (f7 hc),bt (f7 hk),p5,kd0 rfl ho,zd0]
  unfold Ra0
  cases (mpt r[a] r[c] r[k]).2 with
  | false=>rfl
  | true =>
   cases inn r (mpt r[a] r[c] r[k]).1 with
   | false=>cases Yb7 (o::os) (mpt r[a] r[c] r[k]).1<;>rfl
   | true =>
    cases Yb7 (o::os) (mpt r[a] r[c] r[k]).1 with
    | true=>rfl
    | false =>
     show Stp.next (⟨1,((k+1:Nat):Int),(o::os).length+1,bL tX (o::os++[(mpt r[a] r[c] r[k]).1])⟩:o9)=_
     simp[ph]
theorem le0 (r:List Pln) (a c k:Nat) (out:List Pt) (hk:r.length≤k):L1 ⟨r,a,c⟩ (Kb9 k out)=.exit (ph out+1):=by
 unfold L1
 have this:¬ ((k:Int) < (r.length:Int)):=by omega
 cases out with
 | nil =>
  show N2 Stp.next Stp.exit Stp.fail _ (Kb9 k [])=_
  simp only[N2,Kb9]
  rw[bfD this]
  rfl
 | cons o os =>
  show N3 Stp.next Stp.exit Stp.fail _ (Kb9 k (o::os))=_
  simp only[N3,Kb9]
  rw[bfD this]
  rfl
theorem Yd2 (r : List Pln) (hb : Bds r) (hr : r.length ≤ 200) (a c : Nat) (ha : a < r.length) (hc : c < r.length) (k : Nat) (out : List Pt) (ho : out.length ≤ 100000000) :
  ∃ m,lp (L1 ⟨r,a,c⟩) (Kb9 k out)=(ph (mb4 r r[a] r[c] (r.drop k) out)+1,Kb9 m (mb4 r r[a] r[c] (r.drop k) out)) :=
 ⟨_,(Ia8 (mk:=Kb9) (f:=fun s _ out=>Ra0 r r[a] r[c] out s) (g:=fun l out=>mb4 r r[a] r[c] l out) (fin:=fun out=>ph out+1) r (fun j o=>o.length+k≤out.length+j) (by omega)
  (fun _=>rfl) (fun _ _ _=>rfl) (fun j o hj hi=>⟨Yd1 r hb hr a c j ha hc o (by omega) hj,by have:=gc0 r r[a] r[c] o r[j];show (Ra0 r r[a] r[c] o r[j]).length+k≤out.length+(j+1);omega⟩)
  (fun j o hj _=>le0 r a c j o hj) k out (by omega)).1⟩
@[reducible] noncomputable def Lb0 (r:List Pln) (j:Nat) (out:List Pt):p9:=⟨ph out,r,(j:Int),out.length,bL tX out⟩
theorem Yd3 (r : List Pln) (hb : Bds r) (hr : r.length ≤ 200) (a j : Nat) (ha : a < r.length) (out : List Pt) (ho : out.length ≤ 100000000) (hj : j < r.length) :
  G8 ⟨a⟩ (Lb0 r j out)=.next (Lb0 r (j+1) (mb4 r r[a] r[j] (r.drop (j+1)) out)):=by
 obtain⟨m,hm⟩:=Yd2 r hb hr a j ha hj (j+1) out ho
 unfold G8
 generalize mb4 r r[a] r[j] (r.drop (j+1)) out=res at *
 cases out with
 | nil =>
  show N4 Stp.next Stp.exit Stp.fail _ (Lb0 r j [])=_
  simp only[N4,Lb0,m8,o0,p4 hj (by omega)]
  rw[show (⟨0,((j+1:Nat):Int),0,[]⟩:o9)=Kb9 (j+1) [] from rfl,hm,btD (o2 hj)]
  cases res<;>rfl
 | cons o os =>
  show N5 Stp.next Stp.exit Stp.fail _ (Lb0 r j (o::os))=_
  simp only[N5,Lb0,m8,o0,p4 hj (by omega)]
  rw[show (⟨1,((j+1:Nat):Int),(o::os).length,bL tX (o::os)⟩:o9)=Kb9 (j+1) (o::os) from rfl,hm,btD (o2 hj)]
  cases res<;>rfl
theorem le1 (r:List Pln) (a j:Nat) (out:List Pt) (hj:r.length≤j):G8 ⟨a⟩ (Lb0 r j out)=.exit (ph out+1):=by
 unfold G8
 have this:¬ ((j:Int) < (r.length:Int)):=by omega
 cases out with
 | nil =>
  show N4 Stp.next Stp.exit Stp.fail _ (Lb0 r j [])=_
  simp only[N4,Lb0]
  rw[bfD this]
  rfl
 | cons o os =>
  show N5 Stp.next Stp.exit Stp.fail _ (Lb0 r j (o::os))=_
  simp only[N5,Lb0]
  rw[bfD this]
  rfl
theorem Yd4 (r : List Pln) (hb : Bds r) (hr : r.length ≤ 200) (a : Nat) (ha : a < r.length) (j : Nat) (out : List Pt) (ho : out.length ≤ 40000 * a) :
  ∃ m,lp (G8 ⟨a⟩) (Lb0 r j out)=(ph (Xa5 r r[a] (r.drop j) out)+1,Lb0 r m (Xa5 r r[a] (r.drop j) out))∧(Xa5 r r[a] (r.drop j) out).length≤40000*(a+1):=by
 have hk:=Ia8 (step:=G8 ⟨a⟩) (mk:=Lb0 r) (f:=fun q l out=>mb4 r r[a] q l out) (g:=fun l out=>Xa5 r r[a] l out) (fin:=fun out=>ph out+1) r (fun k o=>o.length≤40000*a+200*(k - j)∧j≤k∧k≤j+r.length) (by omega)
  (fun _=>rfl) (fun _ _ _=>rfl) (fun k o hj hi=>⟨Yd3 r hb hr a k ha o (by omega) hj,by
   have:=Zb0 r r[a] r[k] (r.drop (k+1)) o
   rw[List.length_drop] at this
   show (mb4 r r[a] r[k] (r.drop (k+1)) o).length≤40000*a+200*(k+1 - j)∧j≤k+1∧k+1≤j+r.length
   omega⟩)
  (fun k o hj _=>le1 r a k o hj) j out (by omega)
 exact⟨_,hk.1,by have:=hk.2;omega⟩
@[reducible] noncomputable def Rb2 (r:List Pln) (j:Nat) (out:List Pt):w7:=⟨ph out,r,(j:Int),out.length,bL tX out⟩
theorem zd1 (r : List Pln) (hb : Bds r) (hr : r.length ≤ 200) (a : Nat) (ha : a < r.length) (out : List Pt) (ho : out.length ≤ 40000 * a) :
  L2 ⟨⟩ (Rb2 r a out)=.next (Rb2 r (a+1) (Xa5 r r[a] (r.drop (a+1)) out))∧(Xa5 r r[a] (r.drop (a+1)) out).length≤40000*(a+1):=by
 obtain⟨m,hm,hl⟩:=Yd4 r hb hr a ha (a+1) out ho
 refine⟨?_,hl⟩
 clear hl
 unfold L2
 generalize Xa5 r r[a] (r.drop (a+1)) out=res at *
 cases out with
 | nil =>
  show N6 Stp.next Stp.exit Stp.fail _ (Rb2 r a [])=_
  simp only[N6,Rb2,m8,o0,p4 ha (by omega)]
  rw[show (⟨0,r,((a+1:Nat):Int),0,[]⟩:p9)=Lb0 r (a+1) [] from rfl,hm,btD (o2 ha)]
  cases res<;>rfl
 | cons o os =>
  show N7 Stp.next Stp.exit Stp.fail _ (Rb2 r a (o::os))=_
  simp only[N7,Rb2,m8,o0,p4 ha (by omega)]
  rw[show (⟨1,r,((a+1:Nat):Int),(o::os).length,bL tX (o::os)⟩:p9)=Lb0 r (a+1) (o::os) from rfl,hm,btD (o2 ha)]
  cases res<;>rfl
theorem le2 (r:List Pln) (j:Nat) (out:List Pt) (hj:r.length≤j):L2 ⟨⟩ (Rb2 r j out)=.exit (ph out+1):=by
 unfold L2
 have this:¬ ((j:Int) < (r.length:Int)):=by omega
 cases out with
 | nil =>
  show N6 Stp.next Stp.exit Stp.fail _ (Rb2 r j [])=_
  simp only[N6,Rb2]
  rw[bfD this]
  rfl
 | cons o os =>
  show N7 Stp.next Stp.exit Stp.fail _ (Rb2 r j (o::os))=_
  simp only[N7,Rb2]
  rw[bfD this]
  rfl
theorem Yd5 (r:List Pln) (hb:Bds r) (hr:r.length≤200):∃ m,lp (L2 ⟨⟩) (Rb2 r 0 [])=(ph (cor r)+1,Rb2 r m (cor r))∧(cor r).length≤8000000:=by
 have hk:=Ia8 (step:=L2 ⟨⟩) (mk:=Rb2 r) (f:=fun q l out=>Xa5 r q l out) (g:=fun l out=>Hc8 r l out) (fin:=fun out=>ph out+1) r (fun k o=>o.length≤40000*k∧k≤r.length) (by omega)
  (fun _=>rfl) (fun _ _ _=>rfl) (fun k o hj hi=>⟨(zd1 r hb hr k hj o hi.1).1,(zd1 r hb hr k hj o hi.1).2,hj⟩)
  (fun k o hj _=>le2 r k o hj) 0 [] (by simp)
 exact⟨_,hk.1,by have:=hk.2;rw[show max 0 r.length=r.length by omega] at this;have h1:=this.1;show (Hc8 r r []).length≤_;rw[List.drop_zero] at h1;omega⟩
noncomputable def slX (l:List Pt):b7×List b8:=match l with
 | []=>(.v (.slice none 0 0),[])
 | _::_=>(.sl 0 0 l.length 0,[⟨54,4,bL tX l,true,false,0⟩])
theorem Xc0 (l:List Pt):(one (r1L tX)).rd (slX l)=some l:=by
 cases l with
 | nil=>rfl
 | cons x l =>
  show Bool.rec (motive:=fun _=>Option (List Pt)) none (some (slR tX (bL tX (x::l)) 0 (x::l).length)) (Bool.and true (okS tX (bL tX (x::l)) 0 (x::l).length))=_
  rw[Pb5,Pb6]
  rfl
theorem kc3 (r:List Pln) (hb:Bds r) (hr:r.length≤200):za1 r=some (slX (cor r)):=by
 obtain⟨m,hm,_⟩:=Yd5 r hb hr
 unfold za1
 simp only[m8,o0]
 rw[show (⟨0,r,0,0,[]⟩:w7)=Rb2 r 0 [] from rfl,hm]
 cases cor r<;>rfl
theorem pa6 {ρ:Type} (R:RR ρ) {x:b7×List b8} {r:ρ} (h:R.rd x=some r):I5 R (some x)=r:=by
 show Option.rec (motive:=fun _=>ρ) R.d (fun x=>x) (R.rd x)=r
 rw[h]
theorem Aa4 {ρ:Type} (R:RR ρ) {x:b7×List b8} {r:ρ} (h:R.rd x=some r):okO R (some x)=true:=by
 show Option.rec (motive:=fun _=>Bool) false (fun _=>true) (R.rd x)=true
 rw[h]
theorem zc5 (r:List Pln) (hb:Bds r) (hr:r.length≤200):za2 r=cor r:=by unfold za2;rw[kc3 r hb hr];exact pa6 _ (Xc0 _)
theorem zc6 (r:List Pln) (hb:Bds r) (hr:r.length≤200):za3 r=true:=by unfold za3;rw[kc3 r hb hr];exact Aa4 _ (Xc0 _)
noncomputable def Hc9 (x:Pt):List b7:=[i x.px,i x.py,i x.pz,i x.pw,b true]
noncomputable def yb2 (l:List Pt):List (List b7):=l.map Hc9
@[reducible] noncomputable def flK:List (Nat×CK):=[(0,(.int .i64)),(1,(.int .i64)),(2,(.int .i64)),(3,(.int .i64))]
theorem kd1 (x q:Pt):Kb4 flK [i x.px,i x.py,i x.pz,i x.pw] (Hc9 q)=eqX x q:=by
 show Bool.and (decide (x.px=q.px)) (Bool.and (decide (x.py=q.py)) (Bool.and (decide (x.pz=q.pz)) (Bool.and (decide (x.pw=q.pw)) true)))=_
 unfold eqX
 have h:∀ a c:Int,decide (a=c)=(c==a):=fun a c=>by rw[Bool.eq_iff_iff,decide_eq_true_eq,beq_iff_eq];exact eq_comm
 rw[h,h,h,h]
theorem zc7 (x:Pt):∀ l,Sb9 4 flK [i x.px,i x.py,i x.pz,i x.pw] (yb2 l)=Yb7 l x
 | []=>rfl
 | q::l=>by
  have ih:=zc7 x l
  unfold Sb9 at ih ⊢
  show Option.rec (motive:=fun _=>Bool) false (fun r=>toB (hdA (f0 r 4))) (Bool.rec (motive:=fun _=>Option (List b7)) (ic4 flK [i x.px,i x.py,i x.pz,i x.pw] (yb2 l)) (some (Hc9 q)) (Kb4 flK [i x.px,i x.py,i x.pz,i x.pw] (Hc9 q)))=Yb7 (q::l) x
  rw[kd1]
  unfold Yb7 at ih ⊢
  rw[List.any_cons]
  cases eqX x q with
  | true=>rfl
  | false=>exact ih
theorem Oc5 (x:Pt):∀ l,Yb7 l x=false→jb7 flK [i x.px,i x.py,i x.pz,i x.pw] (Hc9 x) (yb2 l)=yb2 (l++[x])
 | [],_=>rfl
 | q::l,h=>by
  unfold Yb7 at h
  rw[List.any_cons,Bool.or_eq_false_iff] at h
  show Bool.rec (motive:=fun _=>List (List b7)) (Hc9 q::jb7 flK [i x.px,i x.py,i x.pz,i x.pw] (Hc9 x) (yb2 l)) (Hc9 x::yb2 l) (Kb4 flK [i x.px,i x.py,i x.pz,i x.pw] (Hc9 q))=_
  rw[kd1,h.1,Oc5 x l h.2]
  rfl
@[reducible] noncomputable def Lb1 (k:Nat) (out:List Pt):g9:=⟨ph out,(k:Int),out.length,bL tX out,yb2 out⟩
structure C2 (P:g8) (r:List Pln) (p q:Pln) (lo:Nat):Prop where
 ns:P.vd7=(r.drop lo).length
 gs:P.Va8=fun k=>tP.row (gL tP r (lo+k))
 is:P.ad4=((r.drop lo).length:Int)
 p1:(⟨⟨P.F9,P.G0,P.G1⟩,P.G2⟩:Pln)=p
 q1:(⟨⟨P.L9,P.M0,P.M1⟩,P.Ya2⟩:Pln)=q
 r1:P.la6=r
theorem Xc1 (s:Pln):(⟨⟨toI (hdA (tP.row s)),toI (hdA (tlA (tP.row s))),toI (hdA (tlA (tlA (tP.row s))))⟩,toI (hdA (tlA (tlA (tlA (tP.row s)))))⟩:Pln)=s:=rfl
theorem Xc2 (s:Pln):((Nat.ble 4 (len (tP.row s)))&&(K7 [(CK.int .i64),(CK.int .i64),(CK.int .i64),(CK.int .i64)] (tP.row s)))=true:=rfl
theorem Yd6 {P : g8} {r : List Pln} {p q : Pln} {lo : Nat} (h : C2 P r p q lo) (hb : Bds r) (hr : r.length ≤ 200) (hp : Bd p) (hq : Bd q) (k : Nat) (out : List Pt) (ho : out.length ≤ 1000000000) (hk : k < (r.drop lo).length) :
  r5 P (Lb1 k out)=.next (Lb1 (k+1) (Ra0 r p q out (r.drop lo)[k])):=by
 have hwi:∀ x,S7 r x=inn r x:=fun x=>yc8 r x (by omega)
 have hwg:∀ x,S8 r x=true:=fun x=>yc9 r x (by omega)
 have hs:gL tP r (lo+k)=(r.drop lo)[k]:=by rw[← Zb1,Oa7 tP hk]
 have hbs:Bd (r.drop lo)[k]:=hb _ (List.mem_of_mem_drop (List.getElem_mem hk))
 have hd:(r.drop lo).length≤200:=by rw[List.length_drop];omega
 have hme:=ke5 hp hq hbs
 have hmg:=ke6 hp hq hbs
 obtain⟨x1,x2,x3,x4,x5,x6,x7,x8,x9,x10,x11,x12,x13,x14,x15,x16,x17,x18,x19,x20,x21⟩:=P
 obtain⟨ns,gs,is,p1,q1,r1⟩:=h
 simp only at ns gs is p1 q1 r1
 have r1:=r1.symm
 subst ns gs is r1
 unfold r5
 cases out with
 | nil =>
  show s8 Stp.next Stp.exit Stp.fail _ (Lb1 k [])=_
  simp only[s8,Lb1,Int.toNat_natCast,m8,K6,p1,q1,hs,Xc1,Xc2,hme,hmg,hwi,hwg,p4 hk (by omega)]
  rw[btD (o2 hk),bt (f7 hk),p5,p5]
  unfold Ra0
  rw[jd9]
  cases (mpt p q (r.drop lo)[k]).2 with
  | false=>rfl
  | true =>
   cases inn r (mpt p q (r.drop lo)[k]).1 with
   | false=>rfl
   | true=>rfl
 | cons o os =>
  show s9 Stp.next Stp.exit Stp.fail _ (Lb1 k (o::os))=_
  simp only[s9,Lb1,Int.toNat_natCast,m8,K6,p1,q1,hs,Xc1,Xc2,hme,hmg,hwi,hwg,p4 hk (by omega),zc7]
  rw[btD (o2 hk),bt (f7 hk),p5,p5,kd0 rfl ho,zd0]
  unfold Ra0
  cases (mpt p q (r.drop lo)[k]).2 with
  | false=>rfl
  | true =>
   cases hx:Yb7 (o::os) (mpt p q (r.drop lo)[k]).1 with
   | true=>rfl
   | false =>
    cases inn r (mpt p q (r.drop lo)[k]).1 with
    | false=>rfl
    | true =>
     show Stp.next (⟨1,((k+1:Nat):Int),(o::os).length+1,bL tX (o::os++[(mpt p q (r.drop lo)[k]).1]),jb7 flK [i (mpt p q (r.drop lo)[k]).1.px,i (mpt p q (r.drop lo)[k]).1.py,i (mpt p q (r.drop lo)[k]).1.pz,i (mpt p q (r.drop lo)[k]).1.pw] (Hc9 (mpt p q (r.drop lo)[k]).1) (yb2 (o::os))⟩:g9)=_
     rw[Oc5 _ _ hx]
     simp[ph]
theorem le3 {P:g8} {r:List Pln} {p q:Pln} {lo:Nat} (h:C2 P r p q lo) (k:Nat) (out:List Pt) (hk:(r.drop lo).length≤k):r5 P (Lb1 k out)=.exit (ph out+1):=by
 obtain⟨x1,x2,x3,x4,x5,x6,x7,x8,x9,x10,x11,x12,x13,x14,x15,x16,x17,x18,x19,x20,x21⟩:=P
 obtain⟨ns,gs,is,p1,q1,r1⟩:=h
 simp only at ns gs is p1 q1 r1
 have r1:=r1.symm
 subst ns gs is r1
 unfold r5
 have this:¬ ((k:Int) < ((r.drop lo).length:Int)):=by omega
 cases out with
 | nil =>
  show s8 Stp.next Stp.exit Stp.fail _ (Lb1 k [])=_
  simp only[s8,Lb1]
  rw[bfD this]
  rfl
 | cons o os =>
  show s9 Stp.next Stp.exit Stp.fail _ (Lb1 k (o::os))=_
  simp only[s9,Lb1]
  rw[bfD this]
  rfl
theorem Yd7 {P : g8} {r : List Pln} {p q : Pln} {lo : Nat} (h : C2 P r p q lo) (hb : Bds r) (hr : r.length ≤ 200) (hp : Bd p) (hq : Bd q) (out : List Pt) (ho : out.length ≤ 100000000) :
  ∃ m,lp (r5 P) (Lb1 0 out)=(ph (mb4 r p q (r.drop lo) out)+1,Lb1 m (mb4 r p q (r.drop lo) out)):=by
 have hd:(r.drop lo).length≤200:=by rw[List.length_drop];omega
 exact⟨_,(Ia8 (mk:=Lb1) (f:=fun s _ out=>Ra0 r p q out s) (g:=fun l out=>mb4 r p q l out) (fin:=fun out=>ph out+1) (r.drop lo) (fun j o=>o.length≤out.length+j) (by omega)
  (fun _=>rfl) (fun _ _ _=>rfl) (fun j o hj hi=>⟨Yd6 h hb hr hp hq j o (by omega) hj,by have:=gc0 r p q o (r.drop lo)[j];show (Ra0 r p q o (r.drop lo)[j]).length≤out.length+(j+1);omega⟩)
  (fun j o hj _=>le3 h j o hj) 0 out (by omega)).1⟩
@[reducible] noncomputable def Lb2 (r:List Pln) (j:Nat) (out:List Pt):i8:=⟨ph out,r,(j:Int),r,r,out.length,bL tX out,yb2 out⟩
structure C1 (P:i4) (r:List Pln) (p:Pln) (a:Nat):Prop where
 i3:P.is3=(a:Int)
 ns:P.bc3=(r.drop (a+1)).length
 gs:P.Ya1=fun k=>tP.row (gL tP r (a+1+k))
 is:P.ca6=((r.drop (a+1)).length:Int)
 p1:(⟨⟨P.F9,P.G0,P.G1⟩,P.G2⟩:Pln)=p
theorem Yd8 {P : i4} {r : List Pln} {p : Pln} {a : Nat} (h : C1 P r p a) (hb : Bds r) (hr : r.length ≤ 200) (hp : Bd p) (j : Nat) (out : List Pt) (ho : out.length ≤ 100000000) (hj : j < (r.drop (a + 1)).length) :
  r6 P (Lb2 r j out)=.next (Lb2 r (j+1) (mb4 r p (r.drop (a+1))[j] ((r.drop (a+1)).drop (j+1)) out)):=by
 have hs:gL tP r (a+1+j)=(r.drop (a+1))[j]:=by rw[← Zb1,Oa7 tP hj]
 have hbs:Bd (r.drop (a+1))[j]:=hb _ (List.mem_of_mem_drop (List.getElem_mem hj))
 have hd:=hj
 rw[List.length_drop] at hd
 have hW:W (W ((a:Int)+(j:Int))+2)=((a+1+(j+1):Nat):Int):=by rw[kb4,ya3 (by omega) (by omega)];omega
 have hdl:(r.drop (a+1)).length≤4611686018427387904:=by rw[List.length_drop];omega
 have hlo:inB ((a+1+(j+1):Nat):Int) (r.length+1)=true:=f7 (by omega)
 rw[List.drop_drop]
 generalize hq:(r.drop (a+1))[j]=q at *
 obtain⟨x1,x2,x3,x4,x5,x6,x7,x8,x9,x10⟩:=P
 obtain⟨i3,ns,gs,is,p1⟩:=h
 simp only at i3 ns gs is p1
 subst i3 ns gs is
 unfold r6
 have key:∀ (P2:g8),C2 P2 r p q (a+1+(j+1))→_:=fun P2 h2=>Yd7 h2 hb hr hp hbs out ho
 cases out with
 | nil =>
  show u9 Stp.next Stp.exit Stp.fail _ (Lb2 r j [])=_
  simp only[u9,Lb2,m8,o0,p4 hj hdl,hW,Int.toNat_natCast,hs,Xc2,hlo]
  rw[show (⟨0,0,0,[],[]⟩:g9)=Lb1 0 [] from rfl]
  generalize hP:g8.mk _ _ _ _ _ _ _ _ _ _ _ _ _ _ _ _ _ _ _ _ _=P2
  obtain⟨m,hm⟩:=key P2 (by
   subst hP
   exact⟨by simp,rfl,by simp,p1,Xc1 q,rfl⟩)
  rw[hm,btD (o2 hj),bt (f7 hj)]
  cases mb4 r p q (r.drop (a+1+(j+1))) []<;>rfl
 | cons o os =>
  show v7 Stp.next Stp.exit Stp.fail _ (Lb2 r j (o::os))=_
  simp only[v7,Lb2,m8,o0,p4 hj hdl,hW,Int.toNat_natCast,hs,Xc2,hlo]
  rw[show (⟨1,0,(o::os).length,bL tX (o::os),yb2 (o::os)⟩:g9)=Lb1 0 (o::os) from rfl]
  generalize hP:g8.mk _ _ _ _ _ _ _ _ _ _ _ _ _ _ _ _ _ _ _ _ _=P2
  obtain⟨m,hm⟩:=key P2 (by
   subst hP
   exact⟨by simp,rfl,by simp,p1,Xc1 q,rfl⟩)
  rw[hm,btD (o2 hj),bt (f7 hj)]
  cases mb4 r p q (r.drop (a+1+(j+1))) (o::os)<;>rfl
theorem le4 {P:i4} {r:List Pln} {p:Pln} {a:Nat} (h:C1 P r p a) (j:Nat) (out:List Pt) (hj:(r.drop (a+1)).length≤j):r6 P (Lb2 r j out)=.exit (ph out+1):=by
 obtain⟨x1,x2,x3,x4,x5,x6,x7,x8,x9,x10⟩:=P
 obtain⟨i3,ns,gs,is,p1⟩:=h
 simp only at i3 ns gs is p1
 subst i3 ns gs is
 unfold r6
 have this:¬ ((j:Int) < ((r.drop (a+1)).length:Int)):=by omega
 cases out with
 | nil =>
  show u9 Stp.next Stp.exit Stp.fail _ (Lb2 r j [])=_
  simp only[u9,Lb2]
  rw[bfD this]
  rfl
 | cons o os =>
  show v7 Stp.next Stp.exit Stp.fail _ (Lb2 r j (o::os))=_
  simp only[v7,Lb2]
  rw[bfD this]
  rfl
theorem Yd9 {P : i4} {r : List Pln} {p : Pln} {a : Nat} (h : C1 P r p a) (hb : Bds r) (hr : r.length ≤ 200) (hp : Bd p) (out : List Pt) (ho : out.length ≤ 10000000) :
  ∃ m,lp (r6 P) (Lb2 r 0 out)=(ph (Xa5 r p (r.drop (a+1)) out)+1,Lb2 r m (Xa5 r p (r.drop (a+1)) out)):=by
 have hd:(r.drop (a+1)).length≤200:=by rw[List.length_drop];omega
 exact⟨_,(Ia8 (mk:=Lb2 r) (f:=fun q l out=>mb4 r p q l out) (g:=fun l out=>Xa5 r p l out) (fin:=fun out=>ph out+1) (r.drop (a+1)) (fun k o=>o.length≤out.length+200*k) (by omega)
  (fun _=>rfl) (fun _ _ _=>rfl) (fun k o hj hi=>⟨Yd8 h hb hr hp k o (by omega) hj,by
   have:=Zb0 r p (r.drop (a+1))[k] ((r.drop (a+1)).drop (k+1)) o
   rw[List.length_drop] at this
   show (mb4 r p (r.drop (a+1))[k] ((r.drop (a+1)).drop (k+1)) o).length≤out.length+200*(k+1)
   omega⟩)
  (fun k o hj _=>le4 h k o hj) 0 out (by omega)).1⟩
@[reducible] noncomputable def Rb3 (r:List Pln) (j:Nat) (out:List Pt):k8:=⟨ph out,r,(j:Int),r,r,out.length,bL tX out,yb2 out⟩
theorem Zd0 {P : o6} (r : List Pln) (h : P.Ka8 = (r.length : Int)) (hb : Bds r) (hr : r.length ≤ 200) (a : Nat) (ha : a < r.length) (out : List Pt) (ho : out.length ≤ 40000 * a) :
  r7 P (Rb3 r a out)=.next (Rb3 r (a+1) (Xa5 r r[a] (r.drop (a+1)) out)):=by
 have hbs:Bd r[a]:=hb _ (List.getElem_mem ha)
 have hlo:inB ((a+1:Nat):Int) (r.length+1)=true:=f7 (by omega)
 have key:∀ (P2:i4),C1 P2 r r[a] a→_:=fun P2 h2=>Yd9 h2 hb hr hbs out (by omega)
 obtain⟨x1⟩:=P
 simp only at h
 subst h
 unfold r7
 cases out with
 | nil =>
  show v8 Stp.next Stp.exit Stp.fail _ (Rb3 r a [])=_
  simp only[v8,Rb3,m8,o0,p4 ha (by omega),Int.toNat_natCast,hlo,Oa7 tP ha]
  rw[show (⟨0,r,0,r,r,0,[],[]⟩:i8)=Lb2 r 0 [] from rfl]
  generalize hP:i4.mk _ _ _ _ _ _ _ _ _ _=P2
  obtain⟨m,hm⟩:=key P2 (by
   subst hP
   exact⟨rfl,by simp,rfl,by simp,rfl⟩)
  rw[hm,btD (o2 ha),bt (f7 ha)]
  cases Xa5 r r[a] (r.drop (a+1)) []<;>rfl
 | cons o os =>
  show w4 Stp.next Stp.exit Stp.fail _ (Rb3 r a (o::os))=_
  simp only[w4,Rb3,m8,o0,p4 ha (by omega),Int.toNat_natCast,hlo,Oa7 tP ha]
  rw[show (⟨1,r,0,r,r,(o::os).length,bL tX (o::os),yb2 (o::os)⟩:i8)=Lb2 r 0 (o::os) from rfl]
  generalize hP:i4.mk _ _ _ _ _ _ _ _ _ _=P2
  obtain⟨m,hm⟩:=key P2 (by
   subst hP
   exact⟨rfl,by simp,rfl,by simp,rfl⟩)
  rw[hm,btD (o2 ha),bt (f7 ha)]
  cases Xa5 r r[a] (r.drop (a+1)) (o::os)<;>rfl
theorem le5 {P:o6} (r:List Pln) (h:P.Ka8=(r.length:Int)) (j:Nat) (out:List Pt) (hj:r.length≤j):r7 P (Rb3 r j out)=.exit (ph out+1):=by
 obtain⟨x1⟩:=P
 simp only at h
 subst h
 unfold r7
 have this:¬ ((j:Int) < (r.length:Int)):=by omega
 cases out with
 | nil =>
  show v8 Stp.next Stp.exit Stp.fail _ (Rb3 r j [])=_
  simp only[v8,Rb3]
  rw[bfD this]
  rfl
 | cons o os =>
  show w4 Stp.next Stp.exit Stp.fail _ (Rb3 r j (o::os))=_
  simp only[w4,Rb3]
  rw[bfD this]
  rfl
theorem Zd1 (r:List Pln) (hb:Bds r) (hr:r.length≤200):∃ m,lp (r7 ⟨(r.length:Int)⟩) (Rb3 r 0 [])=(ph (cor r)+1,Rb3 r m (cor r)) :=
 ⟨_,(Ia8 (step:=r7 ⟨(r.length:Int)⟩) (mk:=Rb3 r) (f:=fun q l out=>Xa5 r q l out) (g:=fun l out=>Hc8 r l out) (fin:=fun out=>ph out+1) r (fun k o=>o.length≤40000*k) (by omega)
  (fun _=>rfl) (fun _ _ _=>rfl) (fun k o hj hi=>⟨Zd0 r rfl hb hr k hj o hi,by
   have h1:=zc4 r r[k] (r.drop (k+1)) o (by rw[List.length_drop];omega)
   rw[List.length_drop] at h1
   show (Xa5 r r[k] (r.drop (k+1)) o).length≤40000*(k+1)
   omega⟩)
  (fun k o hj _=>le5 r rfl k o hj) 0 [] (by simp)).1⟩
theorem zc8 (r:List Pln) (hb:Bds r) (hr:r.length≤200):R3 r=some (slX (cor r)):=by
 obtain⟨m,hm⟩:=Zd1 r hb hr
 unfold R3
 simp only[m8,o0]
 rw[show (⟨0,r,0,r,r,0,[],[]⟩:k8)=Rb3 r 0 [] from rfl,hm]
 cases cor r<;>rfl
theorem Oc6 (r:List Pln) (hb:Bds r) (hr:r.length≤200):R4 r=cor r:=by unfold R4;rw[zc8 r hb hr];exact pa6 _ (Xc0 _)
theorem Oc7 (r:List Pln) (hb:Bds r) (hr:r.length≤200):R5 r=true:=by unfold R5;rw[zc8 r hb hr];exact Aa4 _ (Xc0 _)
end Go.Ev.Ce
namespace Go.Ev.Ce
open Go Go.Ev Go.Ev.L Go.Proofs
noncomputable def slP (l:List Pln):b7×List b8:=(.sl 0 0 l.length 0,[⟨50,4,bL tP l,true,false,0⟩])
theorem Rb4 (l:List Pln):(one (r1L tP)).rd (slP l)=some l:=by
 show Bool.rec (motive:=fun _=>Option (List Pln)) none (some (slR tP (bL tP l) 0 l.length)) (Bool.and true (okS tP (bL tP l) 0 l.length))=_
 rw[Pb5,Pb6]
 rfl
theorem zd2 {α:Type} (t:Ty α) (l:List α):(one (r1L t)).rd (eL t l,[])=some l:=by
 show Bool.rec (motive:=fun _=>Option (List α)) none (some (rt t l)) (Bool.and (Nat.beq t.es t.es) (okE t l))=_
 rw[m8,K6,Nat.beq_refl]
 rfl
noncomputable def ws:List Pln:=[⟨⟨1,0,0⟩,24⟩,⟨⟨-1,0,0⟩,24⟩,⟨⟨0,1,0⟩,24⟩,⟨⟨0,-1,0⟩,24⟩,⟨⟨0,0,1⟩,24⟩,⟨⟨0,0,-1⟩,24⟩]
theorem fe5:Bds ws:=by
 intro p hp
 have:okp p=true:=by
  have h:ws.all okp=true:=by decide
  exact List.all_eq_true.1 h p hp
 exact Wc5 this
noncomputable def Od1 (lo hi:V3):List Pln:=[⟨⟨1,0,0⟩,hi.x⟩,⟨⟨-1,0,0⟩,W (0 - lo.x)⟩,⟨⟨0,1,0⟩,hi.y⟩,⟨⟨0,-1,0⟩,W (0 - lo.y)⟩,⟨⟨0,0,1⟩,hi.z⟩,⟨⟨0,0,-1⟩,W (0 - lo.z)⟩]
theorem Od2 (lo hi:V3):Jb5 lo hi=some (slP (Od1 lo hi)):=rfl
theorem fe6 (lo hi:V3):pb1 lo hi=Od1 lo hi:=by unfold pb1;rw[Od2];exact pa6 _ (Rb4 _)
theorem fe7 (lo hi:V3):Ya7 lo hi=true:=by unfold Ya7;rw[Od2];exact Aa4 _ (Rb4 _)
theorem le6:Od1 ⟨-24,-24,-24⟩ ⟨24,24,24⟩=ws:=by
 simp only[Od1,ws]
 rw[show W (0 - -24)=24 from by rw[Dd9];rfl]
theorem Zd2 {l:List Pln}:Nat.beq (len (bL tP l)) 0=l.isEmpty:=by rw[O7];cases l<;>rfl
theorem Od3 (c:List Pln) (hc:c.length≤1000000000):pb2 c=some (slP (c++ws)):=by
 unfold pb2
 simp only[ab1,fe6,fe7,le6,Zd2]
 have h6:(0+len (bL tP c))=c.length:=by rw[O7];omega
 have hw:len (bL tP ws)=6:=rfl
 rw[h6,hw]
 have e1:Nat.ble (c.length*32) room=true:=ma1 (by omega)
 have e2:Nat.ble ((c.length+6)*32) room=true:=ma1 (by omega)
 have e3:app (app [] (bL tP c)) (bL tP ws)=bL tP (c++ws):=Ga1 tP c ws
 have e4:Nat.beq c.length (len (app [] (bL tP c)))=true:=by
  rw[show app [] (bL tP c)=bL tP c from rfl,O7,Nat.beq_refl]
 rw[e1,e2,e3,e4]
 cases c with
 | nil=>rfl
 | cons p c =>
  show some (b7.sl 0 0 ((p::c).length+6) 0,[(⟨50,4,bL tP (p::c++ws),true,false,0⟩:b8)])=_
  unfold slP
  rw[List.length_append]
  rfl
theorem fe8 (c:List Pln) (hc:c.length≤1000000000):pb3 c=c++ws:=by unfold pb3;rw[Od3 c hc];exact pa6 _ (Rb4 _)
theorem fe9 (c:List Pln) (hc:c.length≤1000000000):pb4 c=true:=by unfold pb4;rw[Od3 c hc];exact Aa4 _ (Rb4 _)
theorem Od4 {l:List (List Pln)} {j:Nat} (h:j < l.length):gL (tLs tP) l j=l[j]:=Oa7 (tLs tP) h
theorem Od5 (ls:List (List Pln)) (hn:ls.length≤1000000000) (hl:ls.flatten.length≤1000000000):∃ m,lp (D8 ⟨ls,ls,(ls.length:Int)⟩) ⟨0,0⟩=(1,⟨(ls.flatten.length:Int),m⟩):=by
 have h:=Ia8 (step:=D8 ⟨ls,ls,(ls.length:Int)⟩) (mk:=fun j (n:Nat)=>(⟨(n:Int),(j:Int)⟩:p6)) (f:=fun l _ n=>n+l.length) (g:=fun l n=>n+l.flatten.length) (fin:=fun _=>1) ls
  (fun j n=>n+(ls.drop j).flatten.length=ls.flatten.length) hn (fun _=>rfl) (fun x r a=>by simp only[List.flatten_cons,List.length_append];omega)
  (fun j n hj hi=>by
   rw[List.drop_eq_getElem_cons hj,List.flatten_cons,List.length_append] at hi
   have hW:W ((n:Int)+(ls[j].length:Int))=((n+ls[j].length:Nat):Int):=by rw[ya3 (by omega) (by omega)];omega
   refine⟨?_,by show n+ls[j].length+(ls.drop (j+1)).flatten.length=_;omega⟩
   simp only[D8,H8,Int.toNat_natCast,Od4 hj,hW,p4 hj (by omega)]
   rw[btD (o2 hj),bt (f7 hj),bfD (by omega)])
  (fun j n hj _=>by
   simp only[D8,H8]
   rw[bfD (by omega)]) 0 0 (by simp)
 have h:=h.1
 rw[List.drop_zero,Nat.zero_add] at h
 exact⟨_,h⟩
theorem Od6 {ls:List (List Pln)} (h:ls.flatten=[]) {j:Nat} (hj:j < ls.length):ls[j]=[]:=by
 rw[List.flatten_eq_nil_iff] at h
 exact h _ (List.getElem_mem hj)
theorem Zd3 (ls:List (List Pln)) (hn:ls.length≤1000000000) (hl:ls.flatten=[]):∃ s,lp (z7 ⟨ls,(ls.length:Int)⟩) ⟨0,0,0,[]⟩=(1,s):=by
 have h:=Ia8 (step:=z7 ⟨ls,(ls.length:Int)⟩) (mk:=fun j (_:Unit)=>(⟨0,(j:Int),0,[]⟩:j9)) (f:=fun _ _ n=>n) (g:=fun _ n=>n) (fin:=fun _=>1) ls
  (fun _ _=>True) hn (fun _=>rfl) (fun x r a=>rfl)
  (fun j n hj hi=>by
   refine⟨?_,trivial⟩
   show w5 Stp.next Stp.exit Stp.fail _ _=_
   simp only[w5,Int.toNat_natCast,Od4 hj,Od6 hl hj,p4 hj (by omega)]
   rw[btD (o2 hj),bt (f7 hj)]
   rfl)
  (fun j n hj _=>by
   show w5 Stp.next Stp.exit Stp.fail _ _=_
   simp only[w5]
   rw[bfD (by omega)]) 0 () trivial
 exact⟨_,h.1⟩
noncomputable def mb5 (t:Nat) (d:List Pln):List (List b7):=app (bL tP d) (List.replicate (t - d.length) Wc1)
theorem Od7 (t:Nat) (d:List Pln) (h:d.length≤t):len (mb5 t d)=t:=by
 unfold mb5
 rw[C5,l4,List.length_append,← l4,O7,List.length_replicate]
 omega
theorem Od8 (t:Nat) (d l:List Pln) (h:d.length+l.length≤t):app (C7 (mb5 t d) d.length) (app (bL tP l) (f0 (mb5 t d) (d.length+len (bL tP l))))=mb5 t (d++l):=by
 have hd:(bL tP d).length=d.length:=by rw[← l4,O7]
 unfold mb5
 rw[O7,← Ga1]
 simp only[C5,C8,C9]
 rw[List.take_left' hd,List.append_assoc]
 congr 2
 rw[List.drop_append,List.drop_eq_nil_of_le (by omega),List.nil_append,hd,List.drop_replicate,List.length_append]
 congr 1
 omega
theorem Od9 (ls:List (List Pln)) (hn:ls.length≤1000000000):∃ m,lp (z7 ⟨ls,(ls.length:Int)⟩) ⟨1,0,0,List.replicate ls.flatten.length Wc1⟩=(2,⟨1,m,ls.flatten.length,bL tP ls.flatten⟩):=by
 have h:=Ia8 (step:=z7 ⟨ls,(ls.length:Int)⟩) (mk:=fun j (d:List Pln)=>(⟨1,(j:Int),d.length,mb5 ls.flatten.length d⟩:j9)) (f:=fun l _ d=>d++l) (g:=fun l d=>d++l.flatten) (fin:=fun _=>2) ls
  (fun j d=>d.length+(ls.drop j).flatten.length=ls.flatten.length) hn (fun _=>by simp) (fun x r a=>by simp)
  (fun j d hj hi=>by
   rw[List.drop_eq_getElem_cons hj,List.flatten_cons,List.length_append] at hi
   refine⟨?_,by show (d++ls[j]).length+(ls.drop (j+1)).flatten.length=_;rw[List.length_append];omega⟩
   show w6 Stp.next Stp.exit Stp.fail _ _=_
   simp only[w6,Int.toNat_natCast,Od4 hj,p4 hj (by omega),ab1]
   rw[Od8 _ _ _ (by omega),Od7 _ _ (by omega),O7,btD (o2 hj),bt (f7 hj),bt (by rw[Nat.ble_eq];omega),List.length_append])
  (fun j d hj _=>by
   show w6 Stp.next Stp.exit Stp.fail _ _=_
   simp only[w6]
   rw[bfD (by omega)]) 0 [] (by simp)
 have h:=h.1
 rw[List.drop_zero,List.nil_append] at h
 have e:mb5 ls.flatten.length ls.flatten=bL tP ls.flatten:=by unfold mb5;rw[Nat.sub_self,C5];simp
 rw[e] at h
 exact⟨_,h⟩
theorem ge0 (ls:List (List Pln)) (hn:ls.length≤1000000000) (hl:ls.flatten.length≤1000000000):qb0 ls=some (slP (ls.flatten++ws)):=by
 have hc:da1 ls=if ls.flatten=[] then ⟨1,0,[]⟩ else ⟨2,ls.flatten.length,bL tP ls.flatten⟩:=by
  unfold da1 I6
  simp only[m8,o0]
  obtain⟨m,hm⟩:=Od5 ls hn hl
  rw[hm]
  by_cases h0:ls.flatten=[]
  ·obtain⟨s,hs⟩:=Zd3 ls hn h0
   rw[if_pos h0,hs]
   rw[show (⟨(ls.flatten.length:Int),m⟩:p6)=⟨0,m⟩ by rw[h0];rfl]
   rfl
  ·obtain⟨m',hm'⟩:=Od9 ls hn
   rw[if_neg h0]
   simp only[Int.toNat_natCast]
   rw[hm']
   have h1:0 < ls.flatten.length:=List.length_pos_iff.2 h0
   have e1:((ls.flatten.length:Int)==0)=false:=by rw[beq_eq_false_iff_ne];omega
   have e2:Bool.and (decide ((0:Int) < (ls.flatten.length:Int))) (Nat.ble (ls.flatten.length*32) room)=true:=by
    rw[ma1 (by omega),decide_eq_true (by omega)]
    rfl
   rw[e1,e2]
   rfl
 unfold qb0
 simp only[m8,K6,hc]
 by_cases h0:ls.flatten=[]
 ·rw[if_pos h0,h0];rfl
 ·rw[if_neg h0]
  generalize ls.flatten=c at *
  have e:∀ (d:List Pln) (p:Pln),app (bL tP d) [[i p.n.x,i p.n.y,i p.n.z,i p.b]]=bL tP (d++[p]):=fun d p=>Ga1 tP d [p]
  have c1:=e c ⟨⟨1,0,0⟩,24⟩
  have c2:=e (c++[⟨⟨1,0,0⟩,24⟩]) ⟨⟨-1,0,0⟩,24⟩
  have c3:=e (c++[⟨⟨1,0,0⟩,24⟩]++[⟨⟨-1,0,0⟩,24⟩]) ⟨⟨0,1,0⟩,24⟩
  have c4:=e (c++[⟨⟨1,0,0⟩,24⟩]++[⟨⟨-1,0,0⟩,24⟩]++[⟨⟨0,1,0⟩,24⟩]) ⟨⟨0,-1,0⟩,24⟩
  have c5:=e (c++[⟨⟨1,0,0⟩,24⟩]++[⟨⟨-1,0,0⟩,24⟩]++[⟨⟨0,1,0⟩,24⟩]++[⟨⟨0,-1,0⟩,24⟩]) ⟨⟨0,0,1⟩,24⟩
  have c6:=e (c++[⟨⟨1,0,0⟩,24⟩]++[⟨⟨-1,0,0⟩,24⟩]++[⟨⟨0,1,0⟩,24⟩]++[⟨⟨0,-1,0⟩,24⟩]++[⟨⟨0,0,1⟩,24⟩]) ⟨⟨0,0,-1⟩,24⟩
  simp only at c1 c2 c3 c4 c5 c6
  simp only[c1,c2,c3,c4,c5,c6,O7,List.length_append,List.length_singleton]
  have g:∀ n:Nat,n≤1000000010→(Nat.beq n n&&Nat.ble ((n+1)*32) room)=true:=fun n h=>by rw[Nat.beq_refl,ma1 (by omega)];rfl
  rw[g _ (by omega),g _ (by omega),g _ (by omega),g _ (by omega),g _ (by omega),g _ (by omega)]
  show some (b7.sl 0 0 (c.length+1+1+1+1+1+1) 0,[(⟨50,4,bL tP _,true,false,0⟩:b8)])=_
  unfold slP
  rw[List.length_append]
  simp only[List.append_assoc]
  rfl
theorem ue5 (ls:List (List Pln)) (hn:ls.length≤1000000000) (hl:ls.flatten.length≤1000000000):Ma3 ls=ls.flatten++ws:=by unfold Ma3;rw[ge0 ls hn hl];exact pa6 _ (Rb4 _)
theorem ue6 (ls:List (List Pln)) (hn:ls.length≤1000000000) (hl:ls.flatten.length≤1000000000):Ma4 ls=true:=by unfold Ma4;rw[ge0 ls hn hl];exact Aa4 _ (Rb4 _)
theorem ge1 (c:List Pln) (hc:c.length≤1000000000):Ma3 [c]=c++ws:=by
 have:[c].flatten=c:=by simp
 rw[ue5 [c] (by simp) (by rw[this];exact hc),this]
theorem ge2 (c:List Pln) (hc:c.length≤1000000000):Ma4 [c]=true:=by
 have:[c].flatten=c:=by simp
 exact ue6 [c] (by simp) (by rw[this];exact hc)
theorem Oc8 (ls:List (List Pln)) (hn:ls.length≤1000000000) (hl:∀ c∈ls,c.length≤1000000000):Ia1 ls=some (b (ls.all fun c=>chk c==0),[]):=by
 have hv:∀ c∈ls,Ha9 c=!(chk c==0)∧Ia0 c=true:=fun c hc=>by
  have:ta5 c=some (b (!(chk c==0)),[]):=by
   unfold ta5
   simp only[m8,K6,Wc7 c (hl c hc),Wc8 c (hl c hc)]
   rfl
  unfold Ha9 Ia0
  rw[this]
  exact⟨rfl,rfl⟩
 have h:=ib4 (step:=D3 ⟨ls,(ls.length:Int)⟩) (mk:=fun j=>(⟨(j:Int)⟩:n5)) (c:=fun c=>!(chk c==0)) (u:=1) (fin:=2) (tLs tP) ls hn
  (fun j hj=>by
   have hm:=hv _ (dc1 (tLs tP) hj)
   simp only[D3,A9,Int.toNat_natCast,m8,K6,hm.1,hm.2,p4 hj (by omega)]
   rw[btD (o2 hj),bt (f7 hj),p5,p5])
  (by simp only[D3,A9];rw[bfD (U5 (Nat.lt_irrefl _))]) 0 (Nat.zero_le _)
 rw[List.drop_zero] at h
 have e:(ls.any fun c=>!(chk c==0))=!ls.all fun c=>chk c==0:=by rw[List.not_all_eq_any_not]
 unfold Ia1 W7 y5 da5 B7
 simp only[m8,o0]
 rw[show (⟨0⟩:n5)=⟨((0:Nat):Int)⟩ from rfl,h,e]
 cases ls.all fun c=>chk c==0 with
 | true=>rfl
 | false =>
  simp only[Bool.not_false,if_true,Nat.zero_add]
  show sl true (sl (Nat.beq 1 1) (some (b (!(decide (((ls.findIdx fun c=>!(chk c==0):Nat):Int)≥0))),[])) _) _=_
  rw[show decide (((ls.findIdx fun c=>!(chk c==0):Nat):Int)≥0)=true from decide_eq_true (by omega)]
  rfl
theorem kd2 (ls:List (List Pln)) (hn:ls.length≤1000000000) (hl:∀ c∈ls,c.length≤1000000000):Y8 ls=ls.all fun c=>chk c==0:=by unfold Y8;rw[Oc8 ls hn hl];rfl
theorem kd3 (ls:List (List Pln)) (hn:ls.length≤1000000000) (hl:∀ c∈ls,c.length≤1000000000):Y9 ls=true:=by unfold Y9;rw[Oc8 ls hn hl];rfl
theorem Zb2 (c:List Pln) (hc:c.length≤1000000000):Y8 [c]=(chk c==0):=by
 rw[kd2 [c] (by simp) (by simpa using hc)]
 simp
theorem Zb3 (c:List Pln) (hc:c.length≤1000000000):Y9 [c]=true:=kd3 [c] (by simp) (by simpa using hc)
noncomputable def pos (X:List Pt) (p:Pln):Bool:=X.any fun x=>decide (rm p x > 0)
noncomputable def kd4 (r:List Pln):Bool:=r.all (pos (cor r))
theorem Pd0 (p:Pln) (X:List Pt) (hX:X.length≤1000000000):fa5 ⟨p.n.x,p.n.y,p.n.z,p.b,X⟩=⟨1,!pos X p⟩:=by
 have hw:∀ x:Pt,ma5 ⟨x.px,x.py,x.pz,x.pw,p.n.x,p.n.y,p.n.z,p.b⟩=⟨decide (rm p x > 0)⟩:=fun x=>by
  show O0.mk (decide (la9 p x > 0))=_
  rw[Wc3]
 have h:=ib4 (step:=E9 ⟨X,(X.length:Int),p.n.x,p.n.y,p.n.z,p.b⟩) (mk:=fun j=>(⟨(j:Int)⟩:o5)) (c:=fun x=>decide (rm p x > 0)) (u:=1) (fin:=2) tX X hX
  (fun j hj=>by
   simp only[E9,D4,Int.toNat_natCast,hw,p4 hj (by omega)]
   rw[btD (o2 hj),bt (f7 hj)])
  (by simp only[E9,D4];rw[bfD (U5 (Nat.lt_irrefl _))]) 0 (Nat.zero_le _)
 rw[List.drop_zero] at h
 unfold fa5 L4 Z1 A0 ha4 D9 pos
 simp only[m8,o0]
 rw[show (⟨0⟩:o5)=⟨((0:Nat):Int)⟩ from rfl,h]
 cases X.any fun x=>decide (rm p x > 0) with
 | false=>rfl
 | true =>
  simp only[if_true,Nat.zero_add]
  show U2.mk 1 (!(decide (((X.findIdx fun x=>decide (rm p x > 0):Nat):Int)≥0)))=_
  rw[show decide (((X.findIdx fun x=>decide (rm p x > 0):Nat):Int)≥0)=true from decide_eq_true (by omega)]
theorem zd3 (r:List Pln) (hb:Bds r) (hr:r.length≤200):ba8 r=some (b (kd4 r),[]):=by
 have hX:(cor r).length≤1000000000:=Nat.le_trans (Wc9 r hb hr) (by omega)
 have h:=ib4 (step:=D5 ⟨r,(r.length:Int)⟩) (mk:=fun j=>(⟨(j:Int),cor r⟩:n7)) (c:=fun p=>!pos (cor r) p) (u:=1) (fin:=2) tP r (by omega)
  (fun j hj=>by
   simp only[D5,B0,Int.toNat_natCast,m8,o0,Pd0 _ _ hX,p4 hj (by omega)]
   rw[btD (o2 hj),bt (f7 hj)]
   rfl)
  (by simp only[D5,B0];rw[bfD (U5 (Nat.lt_irrefl _))]) 0 (Nat.zero_le _)
 rw[List.drop_zero] at h
 have e:(r.any fun p=>!pos (cor r) p)=!r.all (pos (cor r)):=by rw[List.not_all_eq_any_not]
 unfold ba8 W9 y6 da7 B8 kd4
 simp only[m8,o0,K6,Oc6 r hb hr,Oc7 r hb hr]
 rw[show (⟨0,cor r⟩:n7)=⟨((0:Nat):Int),cor r⟩ from rfl,h,e]
 cases r.all (pos (cor r)) with
 | true=>rfl
 | false =>
  simp only[Bool.not_false,if_true,Nat.zero_add]
  show some (b (!(decide (((r.findIdx fun p=>!pos (cor r) p:Nat):Int)≥0))),[])=_
  rw[show decide (((r.findIdx fun p=>!pos (cor r) p:Nat):Int)≥0)=true from decide_eq_true (by omega)]
  rfl
theorem Pd1 (r:List Pln) (hb:Bds r) (hr:r.length≤200):ba9 r=kd4 r:=by unfold ba9;rw[zd3 r hb hr];rfl
theorem Pd2 (r:List Pln) (hb:Bds r) (hr:r.length≤200):ca0 r=true:=by unfold ca0;rw[zd3 r hb hr];rfl
theorem td9 (r:List Pln) (X:List Pt) (hr:r.length≤200) (hX:X.length≤1000000000) (a:Nat) (ha:a < r.length):∃ m,lp (pa3 ⟨r,X,(a:Int)⟩) ⟨false,0⟩=(1,⟨pos X r[a],m⟩):=by
 have h:=Ib8 (step:=pa3 ⟨r,X,(a:Int)⟩) (mk:=fun j (c:Bool)=>(⟨c,(j:Int)⟩:ea7)) (f:=fun c x=>c||decide (rm r[a] x > 0)) (fin:=1) tX X (fun _ _=>True) hX
  (fun j c hj _=>⟨by
   simp only[pa3,sa6,Int.toNat_natCast,yd7,p4 hj (by omega),Oa7 tP ha,f7 ha,f7 hj]
   rw[btD (o2 hj)]
   cases c<;>rfl,trivial⟩)
  (fun c _=>by simp only[pa3,sa6];rw[bfD (U5 (Nat.lt_irrefl _))]) 0 (Nat.zero_le _) false trivial
 have h:=h.1
 rw[List.drop_zero] at h
 have e:∀ (l:List Pt) (c:Bool),l.foldl (fun c x=>c||decide (rm r[a] x > 0)) c=(c||l.any fun x=>decide (rm r[a] x > 0)):=by
  intro l
  induction l with
  | nil=>intro c;simp
  | cons x l ih=>intro c;rw[List.foldl_cons,ih,List.any_cons,Bool.or_assoc]
 rw[e,Bool.false_or] at h
 exact⟨_,h⟩
theorem zd4 (r:List Pln) (hb:Bds r) (hr:r.length≤200):bb5 r=some (b (kd4 r),[]):=by
 have hX:(cor r).length≤1000000000:=Nat.le_trans (Wc9 r hb hr) (by omega)
 have h:=kb5 (step:=za5 ⟨⟩) (mk:=fun j=>(⟨r,cor r,(j:Int)⟩:Y3)) (c:=fun p=>!pos (cor r) p) (u:=1) (fin:=2) tP r (by omega)
  (fun j hj=>by
   obtain⟨m,hm⟩:=td9 r (cor r) hr hX j hj
   simp only[za5,sa7,m8,o0,hm,p4 hj (by omega),Oa7 tP hj]
   rw[btD (o2 hj)]
   rfl)
  (by simp only[za5,sa7];rw[bfD (U5 (Nat.lt_irrefl _))]) 0 (Nat.zero_le _)
 rw[List.drop_zero] at h
 have e:(r.any fun p=>!pos (cor r) p)=!r.all (pos (cor r)):=by rw[List.not_all_eq_any_not]
 unfold bb5 kd4
 simp only[m8,o0,K6,zc5 r hb hr,zc6 r hb hr]
 rw[show (⟨r,cor r,0⟩:Y3)=⟨r,cor r,((0:Nat):Int)⟩ from rfl,h,e]
 cases r.all (pos (cor r))<;>rfl
theorem le7 (r:List Pln) (hb:Bds r) (hr:r.length≤200):tb9 r=kd4 r:=by unfold tb9;rw[zd4 r hb hr];rfl
theorem le8 (r:List Pln) (hb:Bds r) (hr:r.length≤200):ub0 r=true:=by unfold ub0;rw[zd4 r hb hr];rfl
theorem vb3 {c:List Pln} (h:(chk c==0)=true):Bds (c++ws)∧(c++ws).length≤200:=by
 rw[beq_iff_eq,jd7] at h
 refine⟨fun p hp=>?_,by rw[List.length_append,show ws.length=6 from rfl];omega⟩
 rcases List.mem_append.1 hp with hp | hp
 ·exact Wc5 (h.2 p hp)
 ·exact fe5 p hp
noncomputable def pts (c:List Pln):List Pt:=if chk c==0 then cor (c++ws) else []
noncomputable def ful (c:List Pln):Bool:=(chk c==0)&&kd4 (c++ws)
theorem kd5 {c:List Pln} (hc:c.length≤1000000000):∃ x,Aa3 c=some x∧(one (r1L tX)).rd x=some (pts c):=by
 unfold Aa3 pts
 simp only[m8,K6,Zb2 c hc,Zb3 c hc,ge1 c hc,ge2 c hc]
 cases h:chk c==0 with
 | false=>exact⟨_,rfl,rfl⟩
 | true =>
  obtain⟨h1,h2⟩:=vb3 h
  rw[Oc6 _ h1 h2,Oc7 _ h1 h2]
  exact⟨_,rfl,zd2 tX _⟩
theorem qb3 {c:List Pln} (hc:c.length≤1000000000):T1 c=pts c:=by
 obtain⟨x,h1,h2⟩:=kd5 hc
 unfold T1;rw[h1];exact pa6 _ h2
theorem qb4 {c:List Pln} (hc:c.length≤1000000000):T2 c=true:=by
 obtain⟨x,h1,h2⟩:=kd5 hc
 unfold T2;rw[h1];exact Aa4 _ h2
theorem Oc9 {c:List Pln} (hc:c.length≤1000000000):∃ x,Ga6 c=some x∧(one (r1L tX)).rd x=some (pts c):=by
 unfold Ga6 pts
 simp only[m8,K6,zc2 c hc,zc3 c hc,fe8 c hc,fe9 c hc]
 have e:(chk c != 0)=!(chk c==0):=rfl
 rw[e]
 cases h:chk c==0 with
 | false=>exact⟨_,rfl,rfl⟩
 | true =>
  obtain⟨h1,h2⟩:=vb3 h
  rw[zc5 _ h1 h2,zc6 _ h1 h2]
  exact⟨_,rfl,zd2 tX _⟩
theorem Pc0 {c:List Pln} (hc:c.length≤1000000000):Ga7 c=pts c:=by
 obtain⟨x,h1,h2⟩:=Oc9 hc
 unfold Ga7;rw[h1];exact pa6 _ h2
theorem Pc1 {c:List Pln} (hc:c.length≤1000000000):Ga8 c=true:=by
 obtain⟨x,h1,h2⟩:=Oc9 hc
 unfold Ga8;rw[h1];exact Aa4 _ h2
theorem zd5 {c:List Pln} (hc:c.length≤1000000000):Qa9 c=some (b (ful c),[]):=by
 unfold Qa9 ful
 simp only[m8,K6,Zb2 c hc,Zb3 c hc,ge1 c hc,ge2 c hc]
 cases h:chk c==0 with
 | false=>rfl
 | true =>
  obtain⟨h1,h2⟩:=vb3 h
  rw[Pd1 _ h1 h2,Pd2 _ h1 h2]
  rfl
theorem gc1 {c:List Pln} (hc:c.length≤1000000000):fa6 c=ful c:=by unfold fa6;rw[zd5 hc];rfl
theorem gc2 {c:List Pln} (hc:c.length≤1000000000):fa7 c=true:=by unfold fa7;rw[zd5 hc];rfl
theorem kd6 {c:List Pln} (hc:c.length≤1000000000):bb6 c=some (b (ful c),[]):=by
 unfold bb6 ful
 simp only[m8,K6,zc2 c hc,zc3 c hc,fe8 c hc,fe9 c hc]
 cases h:chk c==0 with
 | false=>rfl
 | true =>
  obtain⟨h1,h2⟩:=vb3 h
  rw[le7 _ h1 h2,le8 _ h1 h2]
  rfl
theorem zd6 {c:List Pln} (hc:c.length≤1000000000):Da2 c=ful c:=by unfold Da2;rw[kd6 hc];rfl
theorem Xc3 {c:List Pln} (hc:c.length≤1000000000):sa8 c=true:=by unfold sa8;rw[kd6 hc];rfl
end Go.Ev.Ce
section
namespace Go.Ev.Ce
open Go Go.Ev Go.Ev.L Go.Proofs
set_option maxRecDepth 100000
structure Ca1 where
 is1:Int
 f8:List Int
 c7:Int
noncomputable def gc3:List (Nat×Sum):=[(47,Ya8)]
theorem Zb4:j7 prog G gc3:=⟨bb7,trivial⟩
structure Ca2 where
 alt:Nat
 is0:Int
 c7:Int
noncomputable def ea3 {α:Type} (kk:Ca2→α) (x:Ca1):α:=let t1:=(ja5 (gL tI x.f8 (W ((W (x.c7+1)) - 1)).toNat) x.is1);(sl (decide (x.c7≥(↑(List.length x.f8):Int))) (kk ⟨1,0,x.c7⟩) (sl (inB (W ((W (x.c7+1)) - 1)) (List.length x.f8)) (sl (ea1 (gL tI x.f8 (W ((W (x.c7+1)) - 1)).toNat) x.is1) (kk ⟨1,t1,(W (x.c7+1))⟩) (kk ⟨0,0,0⟩)) (kk ⟨0,0,0⟩)))
noncomputable def k9 (x:Ca1):Ca2:=ea3 (fun r=>r) x
noncomputable def Ma7 (x:Ca1) (r:Ca2):DT (b7×List b8):=(.ite (Nat.beq r.alt 1) (.ret ((i r.is0),[⟨0,2,[[(eL tI x.f8),(i r.c7)]],true,false,0⟩])) .fail)
theorem nc7 {α β:Type} (F:α→β) (kk:Ca2→α) (x:Ca1):F (ea3 kk x)=ea3 (fun r=>F (kk r)) x:=by unfold ea3;(repeat' apply l7 (f:=F))<;>rfl
noncomputable def oa1:Sum:=ab2 ⟨[(.s (.o (.ptr 0 0 0 0))),(.s (.o (.int .i64)))],[⟨0,2,true,(some [[(.c 1 (nL tI)),(.o (.int .i64))]])⟩],fun a H=>(⟨(toI (slT a 1)),(rL tI (slT (rwT (elT H 0) 0) 0)),(toI (slT (rwT (elT H 0) 0) 1))⟩,())⟩ (fun x=>Ma7 x (k9 x))
theorem wa9:g7 prog G 98 oa1:=O8 (enc:=fun x=>⟨[(.ptr 0 0 0 0),(i x.is1)],[⟨0,2,[[(eL tI x.f8),(i x.c7)]],true,false,0⟩]⟩) (fun a H=>by kernel_rfl) (bd b98 Zb4) fun x=>r4 (Eq.trans (b:=ea3 (fun r=>(Ma7 x r).run) x) (by kernel_rfl) (nc7 (fun r=>(Ma7 x r).run) (fun r=>r) x).symm)
structure Jb7 where
 is1:Int
 f8:List Int
 c7:Int
noncomputable def ud0:List (Nat×Sum):=[(98,oa1)]
theorem kd7:j7 prog G ud0:=⟨wa9,trivial⟩
structure Jb8 where
 alt:Nat
 la3:Int
 la4:Int
 la5:Int
 f8:List Int
 c7:Int
noncomputable def Ya9 {α:Type} (kk:Jb8→α) (x:Jb7):α:=let t1:=(k9 ⟨(W ((W (2*x.is1))+1)),(rt tI x.f8),x.c7⟩);let t2:=(k9 ⟨(W ((W (2*x.is1))+1)),(rt tI (rt tI x.f8)),t1.c7⟩);let t3:=(k9 ⟨(W ((W (2*x.is1))+1)),(rt tI (rt tI (rt tI x.f8))),t2.c7⟩);(sl ((cnE tI x.f8)&&true) (sl (Nat.beq t1.alt 1) (sl ((cnE tI (rt tI x.f8))&&true) (sl (Nat.beq t2.alt 1) (sl ((cnE tI (rt tI (rt tI x.f8)))&&true) (sl (Nat.beq t3.alt 1) (kk ⟨1,(W (t1.is0 - x.is1)),(W (t2.is0 - x.is1)),(W (t3.is0 - x.is1)),(rt tI (rt tI (rt tI x.f8))),t3.c7⟩) (kk ⟨0,0,0,0,[],0⟩)) (kk ⟨0,0,0,0,[],0⟩)) (kk ⟨0,0,0,0,[],0⟩)) (kk ⟨0,0,0,0,[],0⟩)) (kk ⟨0,0,0,0,[],0⟩)) (kk ⟨0,0,0,0,[],0⟩))
noncomputable def Ma8 (x:Jb7):Jb8:=Ya9 (fun r=>r) x
noncomputable def Rb5 (x:Jb7) (r:Jb8):DT (b7×List b8):=(.ite (Nat.beq r.alt 1) (.ret ((.agg [(i r.la3),(i r.la4),(i r.la5)]),[⟨0,2,[[(eL tI r.f8),(i r.c7)]],true,false,0⟩])) .fail)
theorem Gd1 {α β:Type} (F:α→β) (kk:Jb8→α) (x:Jb7):F (Ya9 kk x)=Ya9 (fun r=>F (kk r)) x:=by unfold Ya9;(repeat' apply l7 (f:=F))<;>rfl
noncomputable def gc4:Sum:=ab2 ⟨[(.s (.o (.ptr 0 0 0 0))),(.s (.o (.int .i64)))],[⟨0,2,true,(some [[(.c 1 (nL tI)),(.o (.int .i64))]])⟩],fun a H=>(⟨(toI (slT a 1)),(rL tI (slT (rwT (elT H 0) 0) 0)),(toI (slT (rwT (elT H 0) 0) 1))⟩,())⟩ (fun x=>Rb5 x (Ma8 x))
theorem zc9:g7 prog G 97 gc4:=O8 (enc:=fun x=>⟨[(.ptr 0 0 0 0),(i x.is1)],[⟨0,2,[[(eL tI x.f8),(i x.c7)]],true,false,0⟩]⟩) (fun a H=>by kernel_rfl) (bd b97 kd7) fun x=>r4 (Eq.trans (b:=Ya9 (fun r=>(Rb5 x r).run) x) (by kernel_rfl) (Gd1 (fun r=>(Rb5 x r).run) (fun r=>r) x).symm)
noncomputable def ud1:List (Nat×Sum):=[]
theorem kd8:j7 prog G ud1:=trivial
noncomputable def Ea7 (x:V3) (y:V3):V3:=(⟨(W (x.x - y.x)),(W (x.y - y.y)),(W (x.z - y.z))⟩:V3)
noncomputable def gc5:Sum:=ja0 (R2 tV) (R2 tV) (fun x y=>.ret ((one r1V).enc (Ea7 x y),[]))
theorem Ac0:g7 prog G 187 gc5:=wa1 (bd Ee4 kd8) fun x y=>r4 (by kernel_rfl)
noncomputable def Gd2:List (Nat×Sum):=[(166,wa3)]
theorem ud2:j7 prog G Gd2:=⟨Ga5,trivial⟩
noncomputable def Fb5 (x:V3):Option (b7×List b8):=(sl (decide (x.x < (-24))) (some ((b false),[])) (sl (decide (x.x > 24)) (some ((b false),[])) (sl (decide (x.y < (-24))) (some ((b false),[])) (sl (decide (x.y > 24)) (some ((b false),[])) (sl (decide (x.z < (-24))) (some ((b false),[])) (sl (decide (x.z > 24)) (some ((b false),[])) (some ((b true),[]))))))))
noncomputable def Ra1 (x:V3):Bool:=I5 (one r1B) (Fb5 x)
noncomputable def Ra2 (x:V3):Bool:=okO (one r1B) (Fb5 x)
noncomputable def Zb5:Sum:=da3 (R2 tV) (fun x=>.guard (Ra2 x) (.ret ((one r1B).enc (Ra1 x),[])))
theorem gc6:g7 prog G 109 Zb5:=wa2 (bd Be1 ud2) (one r1B) (o:=Fb5) fun x=>r4 (by kernel_rfl)
noncomputable def Ac1:List (Nat×Sum):=[(109,Zb5),(187,gc5),(186,Db9),(167,Qb5),(130,Jb4)]
theorem nc8:j7 prog G Ac1:=⟨gc6,Ac0,Wb3,jc8,Qb2,trivial⟩
noncomputable def Aa5 (x:V3) (y:V3) (z:V3):Option (b7×List b8):=let t1:=(Ra1 x);let t2:=(Ra1 y);let t3:=(Ra1 z);let t4:=(Ea7 y x);let t5:=(Ea7 z x);let t6:=(O4 t4 t5);let t7:=(Da1 t6);let t8:=(Da9 t7.1 x);(sl (Ra2 x) (sl (!t1) (some ((.tup [(.agg [(i 0),(i 0),(i 0),(i 0)]),(b false)]),[])) (sl (Ra2 y) (sl (!t2) (some ((.tup [(.agg [(i 0),(i 0),(i 0),(i 0)]),(b false)]),[])) (sl (Ra2 z) (sl (!t3) (some ((.tup [(.agg [(i 0),(i 0),(i 0),(i 0)]),(b false)]),[])) (sl (bb4 t6) (sl (t7.2==0) (some ((.tup [(.agg [(i 0),(i 0),(i 0),(i 0)]),(b false)]),[])) (some ((.tup [(.agg [(i t7.1.x),(i t7.1.y),(i t7.1.z),(i t8)]),(b true)]),[]))) none)) none)) none)) none)
noncomputable def ha5 (x:V3) (y:V3) (z:V3):Pln×Bool:=I5 (two r1P r1B) (Aa5 x y z)
noncomputable def ha6 (x:V3) (y:V3) (z:V3):Bool:=okO (two r1P r1B) (Aa5 x y z)
noncomputable def Oa0:Sum:=mc0 (R2 tV) (R2 tV) (R2 tV) (fun x y z=>.guard (ha6 x y z) (.ret ((two r1P r1B).enc (ha5 x y z),[])))
theorem cb7:g7 prog G 115 Oa0:=Vd2 (bd Be5 nc8) (two r1P r1B) (o:=Aa5) fun x y z=>r4 (by kernel_rfl)
noncomputable def kd9:List (Nat×Sum):=[(98,oa1),(97,gc4),(115,Oa0),(47,Ya8)]
theorem Xc4:j7 prog G kd9:=⟨wa9,zc9,cb7,bb7,trivial⟩
noncomputable def cb8 (x:List Int):Option (b7×List b8):=let t1:=(k9 ⟨8,(rt tI x),0⟩);let t2:=(k9 ⟨17,(rt tI (rt tI x)),t1.c7⟩);let t3:=(Ma8 ⟨8,(rt tI (rt tI (rt tI x))),t2.c7⟩);let t4:=(Ma8 ⟨8,(rt tI t3.f8),t3.c7⟩);let t5:=(Ma8 ⟨8,(rt tI t4.f8),t4.c7⟩);let t6:=(ha5 (⟨t3.la3,t3.la4,t3.la5⟩:V3) (⟨t4.la3,t4.la4,t4.la5⟩:V3) (⟨t5.la3,t5.la4,t5.la5⟩:V3));let t7:=(ja5 (W (t2.is0 - 8)) 3);(sl ((cnE tI x)&&true) (sl (Nat.beq t1.alt 1) (sl ((cnE tI (rt tI x))&&true) (sl (Nat.beq t2.alt 1) (sl ((cnE tI (rt tI (rt tI x)))&&true) (sl (Nat.beq t3.alt 1) (sl ((cnE tI t3.f8)&&true) (sl (Nat.beq t4.alt 1) (sl ((cnE tI t4.f8)&&true) (sl (Nat.beq t5.alt 1) (sl (ha6 (⟨t3.la3,t3.la4,t3.la5⟩:V3) (⟨t4.la3,t4.la4,t4.la5⟩:V3) (⟨t5.la3,t5.la4,t5.la5⟩:V3)) (sl (decide (t1.is0 > 1)) (sl t6.2 (some ((.agg [(i t6.1.n.x),(i t6.1.n.y),(i t6.1.n.z),(i t6.1.b)]),[])) (sl (ea1 (W (t2.is0 - 8)) 3) (sl (t7==1) (some ((.agg [(i 0),(i (W (1 - (W (2*(Int.tmod t1.is0 2)))))),(i 0),(i (W (t2.is0 - 8)))]),[])) (sl (t7==2) (some ((.agg [(i 0),(i 0),(i (W (1 - (W (2*(Int.tmod t1.is0 2)))))),(i (W (t2.is0 - 8)))]),[])) (some ((.agg [(i (W (1 - (W (2*(Int.tmod t1.is0 2)))))),(i 0),(i 0),(i (W (t2.is0 - 8)))]),[])))) none)) (sl (ea1 (W (t2.is0 - 8)) 3) (sl (t7==1) (some ((.agg [(i 0),(i (W (1 - (W (2*(Int.tmod t1.is0 2)))))),(i 0),(i (W (t2.is0 - 8)))]),[])) (sl (t7==2) (some ((.agg [(i 0),(i 0),(i (W (1 - (W (2*(Int.tmod t1.is0 2)))))),(i (W (t2.is0 - 8)))]),[])) (some ((.agg [(i (W (1 - (W (2*(Int.tmod t1.is0 2)))))),(i 0),(i 0),(i (W (t2.is0 - 8)))]),[])))) none)) none) none) none) none) none) none) none) none) none) none) none)
noncomputable def Ac2 (x:List Int):Pln:=I5 (one r1P) (cb8 x)
noncomputable def vb4 (x:List Int):Bool:=okO (one r1P) (cb8 x)
noncomputable def Ac3:Sum:=da3 (V2 tI) (fun x=>.guard (vb4 x) (.ret ((one r1P).enc (Ac2 x),[])))
theorem ld0:g7 prog G 35 Ac3:=wa2 (bd b35 Xc4) (one r1P) (o:=cb8) fun x=>r4 (by kernel_rfl)
noncomputable def ld1:List (Nat×Sum):=[(187,gc5)]
theorem Xc5:j7 prog G ld1:=⟨Ac0,trivial⟩
noncomputable def vb5 (x:Pln):Pln:=let t1:=(Ea7 (⟨0,0,0⟩:V3) x.n);(⟨t1,(W (0 - x.b))⟩:Pln)
noncomputable def Rb6:Sum:=da3 (R2 tP) (fun x=>.ret ((one r1P).enc (vb5 x),[]))
theorem kc4:g7 prog G 119 Rb6:=Vb2 (bd Be7 Xc5) fun x=>r4 (by kernel_rfl)
noncomputable def ld2:List (Nat×Sum):=[(86,Eb3),(109,Zb5),(130,Jb4)]
theorem Xc6:j7 prog G ld2:=⟨Xb3,gc6,Qb2,trivial⟩
noncomputable def cb9 (x:Pln) (y:V3):Option (b7×List b8):=let t1:=(Pa1 x);let t2:=(Ra1 y);let t3:=(Da9 x.n y);(sl (Pa2 x) (sl (!t1) (some ((i 0),[])) (sl (Ra2 y) (sl (!t2) (some ((i 0),[])) (sl (decide ((W (t3 - x.b)) < 0)) (some ((i (-1)),[])) (sl (decide ((W (t3 - x.b)) > 0)) (some ((i 1),[])) (some ((i 0),[]))))) none)) none)
noncomputable def vb6 (x:Pln) (y:V3):Int:=I5 (one r1I) (cb9 x y)
noncomputable def vb7 (x:Pln) (y:V3):Bool:=okO (one r1I) (cb9 x y)
noncomputable def Rb7:Sum:=ja0 (R2 tP) (R2 tV) (fun x y=>.guard (vb7 x y) (.ret ((one r1I).enc (vb6 x y),[])))
theorem kc5:g7 prog G 194 Rb7:=eb7 (bd Ee5 Xc6) (one r1I) (o:=cb9) fun x y=>r4 (by kernel_rfl)
noncomputable def Fb6:List (Nat×Sum):=[]
theorem nc9:j7 prog G Fb6:=trivial
structure oa2 where
 i5:Int
 c7:Int
 i6:Int
 d9:Int
 F9:Int
 G0:Int
 G1:Int
 G2:Int
structure O6 where
 is7:Int
noncomputable def gc7 (p:oa2) (s:O6):St:=⟨(ra 5 ((.ptr 0 0 0 0)::((.ptr 1 0 0 0)::((i s.is7)::(ra 42 []))))),[⟨0,4,[[(i p.i5),(i p.c7),(i p.i6),(i p.d9)]],true,false,0⟩,⟨0,4,[[(i p.F9),(i p.G0),(i p.G1),(i p.G2)]],true,false,0⟩]⟩
noncomputable def fa8 {α:Type} (k:O6→α) (e:Nat→α) (z:α) (p:oa2) (s:O6):α:=(sl (decide (s.is7 < 4)) (sl (inB s.is7 4) (sl ((Nat.ble ((0+(s.is7.toNat*1))+1) 4)&&(K7 [(CK.int .i64)] (f0 [(i p.i5),(i p.c7),(i p.i6),(i p.d9)] (0+(s.is7.toNat*1))))) (sl (inB s.is7 4) (sl ((Nat.ble ((0+(s.is7.toNat*1))+1) 4)&&(K7 [(CK.int .i64)] (f0 [(i p.F9),(i p.G0),(i p.G1),(i p.G2)] (0+(s.is7.toNat*1))))) (sl (decide ((toI (hdA (f0 [(i p.i5),(i p.c7),(i p.i6),(i p.d9)] (0+(s.is7.toNat*1))))) < (toI (hdA (f0 [(i p.F9),(i p.G0),(i p.G1),(i p.G2)] (0+(s.is7.toNat*1))))))) (e 1) (sl (inB s.is7 4) (sl ((Nat.ble ((0+(s.is7.toNat*1))+1) 4)&&(K7 [(CK.int .i64)] (f0 [(i p.i5),(i p.c7),(i p.i6),(i p.d9)] (0+(s.is7.toNat*1))))) (sl (inB s.is7 4) (sl ((Nat.ble ((0+(s.is7.toNat*1))+1) 4)&&(K7 [(CK.int .i64)] (f0 [(i p.F9),(i p.G0),(i p.G1),(i p.G2)] (0+(s.is7.toNat*1))))) (sl (decide ((toI (hdA (f0 [(i p.i5),(i p.c7),(i p.i6),(i p.d9)] (0+(s.is7.toNat*1))))) > (toI (hdA (f0 [(i p.F9),(i p.G0),(i p.G1),(i p.G2)] (0+(s.is7.toNat*1))))))) (e 2) (k ⟨(W (s.is7+1))⟩)) z) z) z) z)) z) z) z) z) (e 3))
noncomputable def aa6 (p:oa2) (s:O6):Stp O6:=fa8 .next .exit .fail p s
noncomputable def Ua8:Lo oa2 O6:=⟨En Fb6,0,ee5,[1,1,1,0,1,4,4],[5,6,7],.p,[⟨(ru2 5 ((.s (.o (.ptr 0 0 0 0)))::((.s (.o (.ptr 1 0 0 0)))::((.s (.o (.int .i64)))::(ru2 42 []))))),[⟨0,4,true,(some [[(.o (.int .i64)),(.o (.int .i64)),(.o (.int .i64)),(.o (.int .i64))]])⟩,⟨0,4,true,(some [[(.o (.int .i64)),(.o (.int .i64)),(.o (.int .i64)),(.o (.int .i64))]])⟩],fun a H=>(⟨(toI (slT (rwT (elT H 0) 0) 0)),(toI (slT (rwT (elT H 0) 0) 1)),(toI (slT (rwT (elT H 0) 0) 2)),(toI (slT (rwT (elT H 0) 0) 3)),(toI (slT (rwT (elT H 1) 0) 0)),(toI (slT (rwT (elT H 1) 0) 1)),(toI (slT (rwT (elT H 1) 0) 2)),(toI (slT (rwT (elT H 1) 0) 3))⟩,⟨(toI (slT a 7))⟩)⟩],aa6,[(none,fun p s=>⟨[(i (-1))],[]⟩),(none,fun p s=>⟨[(i 1)],[]⟩),(some 0,fun p s=>⟨(ra 5 ((.ptr 0 0 0 0)::((.ptr 1 0 0 0)::((i s.is7)::(ra 24 ((i s.is7)::((b (decide (s.is7 < 4)))::(ra 16 [])))))))),[⟨0,4,[[(i p.i5),(i p.c7),(i p.i6),(i p.d9)]],true,false,0⟩,⟨0,4,[[(i p.F9),(i p.G0),(i p.G1),(i p.G2)]],true,false,0⟩]⟩)],gc7⟩
theorem gc8:Ua8.Ok:=Lo.ok [] (by kernel_rfl) .nil rfl (.cons (fun a H=>by kernel_rfl) .nil) fun p s=>(.of @fa8 (fun F _ _ _ _ _=>by unfold fa8;(repeat' apply l7 (f:=F))<;>rfl) (by kernel_rfl))
noncomputable def Aa6 (x:Pln) (y:Pln):Option (b7×List b8):=let t1:=(lp (aa6 (⟨x.n.x,x.n.y,x.n.z,x.b,y.n.x,y.n.y,y.n.z,y.b⟩:oa2)) (⟨0⟩:O6));(sl (Nat.beq t1.1 1) (some ((i (-1)),[])) (sl (Nat.beq t1.1 2) (some ((i 1),[])) (sl (Nat.beq t1.1 3) (some ((i 0),[])) none)))
noncomputable def Aa7 (x:Pln) (y:Pln):Int:=I5 (one r1I) (Aa6 x y)
noncomputable def mb6 (x:Pln) (y:Pln):Bool:=okO (one r1I) (Aa6 x y)
noncomputable def Nb3:Sum:=ja0 (R2 tP) (R2 tP) (fun x y=>.guard (mb6 x y) (.ret ((one r1I).enc (Aa7 x y),[])))
theorem Ac4:g7 prog G 180 Nb3:=eb7 (bd De8 nc9) (one r1I) (o:=Aa6) fun x y=>ya4 (.s .p (.s .p (.s .p (.s (.s .p (.b (.u Ua8.ls))) .p)))) [Ua8.pr] (by kernel_rfl) (.cons gc8 .nil) (by kernel_rfl)
noncomputable def ud3:List (Nat×Sum):=[(47,Ya8)]
theorem ld3:j7 prog G ud3:=⟨bb7,trivial⟩
noncomputable def qb5 (x:Pln) (y:V3):Option (b7×List b8):=let t1:=(ja5 y.z 9);let t2:=(ja5 y.x 5);(sl (ea1 y.z 9) (sl (inB t1 9) (sl ((Nat.ble 1 (len (i9 [[(i y.y)],[(i 0)],[(i 4608)],[(i 4609)],[(i (-4609))],[(i (W (2*x.n.x)))],[(i 2097152)],[(i 2097153)],[(i (-2097152))]] (0+t1.toNat))))&&(K7 [(CK.int .i64)] (i9 [[(i y.y)],[(i 0)],[(i 4608)],[(i 4609)],[(i (-4609))],[(i (W (2*x.n.x)))],[(i 2097152)],[(i 2097153)],[(i (-2097152))]] (0+t1.toNat)))) (sl (ea1 y.x 5) (sl (t2==0) (some ((.agg [(i (toI (hdA (i9 [[(i y.y)],[(i 0)],[(i 4608)],[(i 4609)],[(i (-4609))],[(i (W (2*x.n.x)))],[(i 2097152)],[(i 2097153)],[(i (-2097152))]] (0+t1.toNat))))),(i x.n.y),(i x.n.z),(i x.b)]),[])) (sl (t2==1) (some ((.agg [(i x.n.x),(i (toI (hdA (i9 [[(i y.y)],[(i 0)],[(i 4608)],[(i 4609)],[(i (-4609))],[(i (W (2*x.n.x)))],[(i 2097152)],[(i 2097153)],[(i (-2097152))]] (0+t1.toNat))))),(i x.n.z),(i x.b)]),[])) (sl (t2==2) (some ((.agg [(i x.n.x),(i x.n.y),(i (toI (hdA (i9 [[(i y.y)],[(i 0)],[(i 4608)],[(i 4609)],[(i (-4609))],[(i (W (2*x.n.x)))],[(i 2097152)],[(i 2097153)],[(i (-2097152))]] (0+t1.toNat))))),(i x.b)]),[])) (sl (t2==3) (some ((.agg [(i x.n.x),(i x.n.y),(i x.n.z),(i (toI (hdA (i9 [[(i y.y)],[(i 0)],[(i 4608)],[(i 4609)],[(i (-4609))],[(i (W (2*x.n.x)))],[(i 2097152)],[(i 2097153)],[(i (-2097152))]] (0+t1.toNat)))))]),[])) (sl (t2==4) (some ((.agg [(i (W (2*x.n.x))),(i (W (2*x.n.y))),(i (W (2*x.n.z))),(i x.b)]),[])) (some ((.agg [(i x.n.x),(i x.n.y),(i x.n.z),(i x.b)]),[]))))))) none) none) none) none)
noncomputable def Pc2 (x:Pln) (y:V3):Pln:=I5 (one r1P) (qb5 x y)
noncomputable def gc9 (x:Pln) (y:V3):Bool:=okO (one r1P) (qb5 x y)
noncomputable def Pc3:Sum:=ja0 (R2 tP) (R2 tV) (fun x y=>.guard (gc9 x y) (.ret ((one r1P).enc (Pc2 x y),[])))
theorem ud4:g7 prog G 118 Pc3:=eb7 (bd Be6 ld3) (one r1P) (o:=qb5) fun x y=>r4 (by kernel_rfl)
end Go.Ev.Ce
end
