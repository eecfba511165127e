/- Own work: a part of the proof. -/
import Derived.Test.YtlccibobknidjaaGreatEvD5
import Derived.Test.YtlccibobknidjaaGreatEvDG
set_option linter.unusedVariables false
set_option linter.unusedSimpArgs false
set_option linter.unnecessarySimpa false
set_option linter.unusedSectionVars false
section
namespace Go.Ev.Ce
open Go Go.Ev Go.Ev.L Go.Proofs
set_option maxRecDepth 100000
noncomputable def Ra3:List (Nat×Sum):=[(115,Oa0),(194,Rb7)]
theorem Xc7:j7 prog G Ra3:=⟨cb7,kc5,trivial⟩
structure ma6 where
 e7:List V3
 is3:Int
 is4:Int
 is5:Int
 bs7:Bool
 i5:Int
 c7:Int
 i6:Int
 d9:Int
structure fa9 where
 is8:Int
noncomputable def Ic0 (p:ma6) (s:fa9):St:=⟨((eL tV p.e7)::(.unk::(.unk::((i p.is3)::((i p.is4)::((i p.is5)::((.ptr 0 0 0 0)::((b p.bs7)::((i s.is8)::(ra 48 [])))))))))),[⟨0,4,[[(i p.i5),(i p.c7),(i p.i6),(i p.d9)]],true,false,0⟩]⟩
noncomputable def ua1 {α:Type} (k:fa9→α) (e:Nat→α) (z:α) (p:ma6) (s:fa9):α:=let t1:=(vb6 (⟨(⟨p.i5,p.c7,p.i6⟩:V3),p.d9⟩:Pln) (gL tV p.e7 s.is8.toNat));(sl (decide (s.is8 < (↑(List.length p.e7):Int))) (sl p.bs7 (sl (inB s.is8 (List.length p.e7)) (sl (vb7 (⟨(⟨p.i5,p.c7,p.i6⟩:V3),p.d9⟩:Pln) (gL tV p.e7 s.is8.toNat)) (sl (t1 != 0) (e 1) (k ⟨(W (s.is8+1))⟩)) z) z) (e 2)) (e 3))
noncomputable def pa7 (p:ma6) (s:fa9):Stp fa9:=ua1 .next .exit .fail p s
noncomputable def vb8:Lo ma6 fa9:=⟨En Ra3,0,gd9,[1,0,1,4,4,1,0,4,1,4,4,1,0,4,1,4,4,1,0,4,1,1,4,4],[0,3,4,5,6,7,8],.p,[⟨((.s (.c 3 (nL tV)))::((.s (.o .unk))::((.s (.o .unk))::((.s (.o (.int .i64)))::((.s (.o (.int .i64)))::((.s (.o (.int .i64)))::((.s (.o (.ptr 0 0 0 0)))::((.s (.o .bool))::((.s (.o (.int .i64)))::(ru2 48 [])))))))))),[⟨0,4,true,(some [[(.o (.int .i64)),(.o (.int .i64)),(.o (.int .i64)),(.o (.int .i64))]])⟩],fun a H=>(⟨(rL tV (slT a 0)),(toI (slT a 3)),(toI (slT a 4)),(toI (slT a 5)),(toB (slT a 7)),(toI (slT (rwT (elT H 0) 0) 0)),(toI (slT (rwT (elT H 0) 0) 1)),(toI (slT (rwT (elT H 0) 0) 2)),(toI (slT (rwT (elT H 0) 0) 3))⟩,⟨(toI (slT a 8))⟩)⟩],pa7,[(none,fun p s=>⟨[(b false)],[]⟩),(some 6,fun p s=>⟨((eL tV p.e7)::(.unk::(.unk::((i p.is3)::((i p.is4)::((i p.is5)::((.ptr 0 0 0 0)::((b p.bs7)::((i s.is8)::(ra 32 ((i s.is8)::((eL tV p.e7)::((i (↑(List.length p.e7):Int))::((b (decide (s.is8 < (↑(List.length p.e7):Int))))::((b true)::((b p.bs7)::((b p.bs7)::(ra 9 [])))))))))))))))))),[⟨0,4,[[(i p.i5),(i p.c7),(i p.i6),(i p.d9)]],true,false,0⟩]⟩),(some 6,fun p s=>⟨((eL tV p.e7)::(.unk::(.unk::((i p.is3)::((i p.is4)::((i p.is5)::((.ptr 0 0 0 0)::((b p.bs7)::((i s.is8)::(ra 32 ((i s.is8)::((eL tV p.e7)::((i (↑(List.length p.e7):Int))::((b (decide (s.is8 < (↑(List.length p.e7):Int))))::((b false)::(u::((b false)::(ra 9 [])))))))))))))))))),[⟨0,4,[[(i p.i5),(i p.c7),(i p.i6),(i p.d9)]],true,false,0⟩]⟩)],Ic0⟩
theorem Ic1:vb8.Ok:=Lo.ok [] (by kernel_rfl) .nil rfl (.cons (fun a H=>by kernel_rfl) .nil) fun p s=>(.of @ua1 (fun F _ _ _ _ _=>by unfold ua1;(repeat' apply l7 (f:=F))<;>rfl) (by kernel_rfl))
structure Ia9 where
 is3:Int
 is4:Int
structure ga0 where
 e7:List V3
 is5:Int
noncomputable def Ic2 (p:Ia9) (s:ga0):St:=⟨((eL tV s.e7)::(.unk::(.unk::((i p.is3)::((i p.is4)::((i s.is5)::(ra 51 []))))))),[]⟩
noncomputable def ua2 {α:Type} (k:ga0→α) (e:Nat→α) (z:α) (p:Ia9) (s:ga0):α:=let t1:=(ha5 (gL tV s.e7 p.is3.toNat) (gL tV s.e7 p.is4.toNat) (gL tV s.e7 s.is5.toNat));let t2:=(lp (pa7 (⟨(rt tV s.e7),p.is3,p.is4,s.is5,t1.2,t1.1.n.x,t1.1.n.y,t1.1.n.z,t1.1.b⟩:ma6)) (⟨0⟩:fa9));(sl (decide (s.is5 < p.is4)) (sl (inB p.is3 (List.length s.e7)) (sl (inB p.is4 (List.length s.e7)) (sl (inB s.is5 (List.length s.e7)) (sl (ha6 (gL tV s.e7 p.is3.toNat) (gL tV s.e7 p.is4.toNat) (gL tV s.e7 s.is5.toNat)) (sl ((cnE tV s.e7)&&true) (sl (Nat.beq t2.1 1) (e 1) (sl (Nat.beq t2.1 2) (k ⟨(rt tV s.e7),(W (s.is5+1))⟩) (sl (Nat.beq t2.1 3) (k ⟨(rt tV s.e7),(W (s.is5+1))⟩) z))) z) z) z) z) z) (e 2))
noncomputable def pa8 (p:Ia9) (s:ga0):Stp ga0:=ua2 .next .exit .fail p s
noncomputable def vb9:Lo Ia9 ga0:=⟨En Ra3,0,gd9,[1,0,1,4,4,1,0,4,1,4,4,1,0,4,1,4,4],[0,3,4,5],(.s .p (.s (.b (.s .p (.s .p (.b (.u vb8.ls))))) .p)),[⟨((.s (.c 3 (nL tV)))::((.s (.o .unk))::((.s (.o .unk))::((.s (.o (.int .i64)))::((.s (.o (.int .i64)))::((.s (.o (.int .i64)))::(ru2 51 []))))))),[],fun a H=>(⟨(toI (slT a 3)),(toI (slT a 4))⟩,⟨(rL tV (slT a 0)),(toI (slT a 5))⟩)⟩],pa8,[(none,fun p s=>⟨[(b false)],[]⟩),(some 4,fun p s=>⟨((eL tV s.e7)::(.unk::(.unk::((i p.is3)::((i p.is4)::((i s.is5)::(ra 14 ((i s.is5)::((i p.is4)::((b (decide (s.is5 < p.is4)))::(ra 34 []))))))))))),[]⟩)],Ic2⟩
theorem Ic3:vb9.Ok:=Lo.ok [vb8.pr] (by kernel_rfl) (.cons Ic1 .nil) rfl (.cons (fun a H=>by kernel_rfl) .nil) fun p s=>(.of @ua2 (fun F _ _ _ _ _=>by unfold ua2;(repeat' apply l7 (f:=F))<;>rfl) (by kernel_rfl))
structure Ja0 where
 is3:Int
structure ga1 where
 e7:List V3
 is4:Int
noncomputable def Ic4 (p:Ja0) (s:ga1):St:=⟨((eL tV s.e7)::(.unk::(.unk::((i p.is3)::((i s.is4)::(ra 52 [])))))),[]⟩
noncomputable def ua3 {α:Type} (k:ga1→α) (e:Nat→α) (z:α) (p:Ja0) (s:ga1):α:=let t1:=(lp (pa8 (⟨p.is3,s.is4⟩:Ia9)) (⟨(rt tV s.e7),0⟩:ga0));(sl (decide (s.is4 < p.is3)) (sl ((cnE tV s.e7)&&true) (sl (Nat.beq t1.1 1) (e 1) (sl (Nat.beq t1.1 2) (k ⟨t1.2.e7,(W (s.is4+1))⟩) z)) z) (e 2))
noncomputable def pa9 (p:Ja0) (s:ga1):Stp ga1:=ua3 .next .exit .fail p s
noncomputable def wb0:Lo Ja0 ga1:=⟨En Ra3,0,gd9,[1,0,1,4,4,1,0,4,1,4,4],[0,3,4],(.s .p (.s (.b (.s .p (.b (.u vb9.ls)))) .p)),[⟨((.s (.c 3 (nL tV)))::((.s (.o .unk))::((.s (.o .unk))::((.s (.o (.int .i64)))::((.s (.o (.int .i64)))::(ru2 52 [])))))),[],fun a H=>(⟨(toI (slT a 3))⟩,⟨(rL tV (slT a 0)),(toI (slT a 4))⟩)⟩],pa9,[(none,fun p s=>⟨[(b false)],[]⟩),(some 2,fun p s=>⟨((eL tV s.e7)::(.unk::(.unk::((i p.is3)::((i s.is4)::(ra 10 ((i s.is4)::((i p.is3)::((b (decide (s.is4 < p.is3)))::(ra 39 [])))))))))),[]⟩)],Ic4⟩
theorem Ic5:wb0.Ok:=Lo.ok [vb9.pr] (by kernel_rfl) (.cons Ic3 .nil) rfl (.cons (fun a H=>by kernel_rfl) .nil) fun p s=>(.of @ua3 (fun F _ _ _ _ _=>by unfold ua3;(repeat' apply l7 (f:=F))<;>rfl) (by kernel_rfl))
structure Ja1 where
structure ga2 where
 e7:List V3
 is3:Int
noncomputable def Ic6 (p:Ja1) (s:ga2):St:=⟨((eL tV s.e7)::(.unk::(.unk::((i s.is3)::(ra 53 []))))),[]⟩
noncomputable def ua4 {α:Type} (k:ga2→α) (e:Nat→α) (z:α) (p:Ja1) (s:ga2):α:=let t1:=(lp (pa9 (⟨s.is3⟩:Ja0)) (⟨(rt tV s.e7),0⟩:ga1));(sl (decide (s.is3 < (↑(List.length s.e7):Int))) (sl ((cnE tV s.e7)&&true) (sl (Nat.beq t1.1 1) (e 1) (sl (Nat.beq t1.1 2) (k ⟨t1.2.e7,(W (s.is3+1))⟩) z)) z) (e 2))
noncomputable def qa0 (p:Ja1) (s:ga2):Stp ga2:=ua4 .next .exit .fail p s
noncomputable def wb1:Lo Ja1 ga2:=⟨En Ra3,0,gd9,[1,0,1,4,4],[0,3],(.s .p (.s (.b (.s .p (.b (.u wb0.ls)))) .p)),[⟨((.s (.c 3 (nL tV)))::((.s (.o .unk))::((.s (.o .unk))::((.s (.o (.int .i64)))::(ru2 53 []))))),[],fun a H=>(⟨⟩,⟨(rL tV (slT a 0)),(toI (slT a 3))⟩)⟩],qa0,[(none,fun p s=>⟨[(b false)],[]⟩),(some 0,fun p s=>⟨((eL tV s.e7)::(.unk::(.unk::((i s.is3)::(ra 5 ((i s.is3)::((eL tV s.e7)::((i (↑(List.length s.e7):Int))::((b (decide (s.is3 < (↑(List.length s.e7):Int))))::(ra 44 [])))))))))),[]⟩)],Ic6⟩
theorem Ic7:wb1.Ok:=Lo.ok [wb0.pr] (by kernel_rfl) (.cons Ic5 .nil) rfl (.cons (fun a H=>by kernel_rfl) .nil) fun p s=>(.of @ua4 (fun F _ _ _ _ _=>by unfold ua4;(repeat' apply l7 (f:=F))<;>rfl) (by kernel_rfl))
noncomputable def db0 (x:List V3):Option (b7×List b8):=let t1:=(lp (qa0 (⟨⟩:Ja1)) (⟨(rt tV x),0⟩:ga2));(sl ((cnE tV x)&&true) (sl (Nat.beq t1.1 1) (some ((b false),[])) (sl (Nat.beq t1.1 2) (some ((b true),[])) none)) none)
noncomputable def db1 (x:List V3):Bool:=I5 (one r1B) (db0 x)
noncomputable def Ma9 (x:List V3):Bool:=okO (one r1B) (db0 x)
noncomputable def Rb8:Sum:=da3 (V2 tV) (fun x=>.guard (Ma9 x) (.ret ((one r1B).enc (db1 x),[])))
theorem kc6:g7 prog G 124 Rb8:=wa2 (bd Be8 Xc7) (one r1B) (o:=db0) fun x=>ya4 (.s .p (.s (.s .p (.b (.u wb1.ls))) .p)) [wb1.pr] (by kernel_rfl) (.cons Ic7 .nil) (by kernel_rfl)
noncomputable def Zb6:List (Nat×Sum):=[(109,Zb5),(124,Rb8)]
theorem Ic8:j7 prog G Zb6:=⟨gc6,kc6,trivial⟩
structure Aa8 where
 e7:List V3
structure T3 where
 is3:Int
noncomputable def Ac5 (p:Aa8) (s:T3):St:=⟨((eL tV p.e7)::(.unk::(.unk::((i s.is3)::(ra 17 []))))),[]⟩
noncomputable def oa3 {α:Type} (k:T3→α) (e:Nat→α) (z:α) (p:Aa8) (s:T3):α:=let t1:=(Ra1 (gL tV p.e7 s.is3.toNat));(sl (decide (s.is3 < (↑(List.length p.e7):Int))) (sl (inB s.is3 (List.length p.e7)) (sl (Ra2 (gL tV p.e7 s.is3.toNat)) (sl (!t1) (e 1) (k ⟨(W (s.is3+1))⟩)) z) z) (e 2))
noncomputable def ua5 (p:Aa8) (s:T3):Stp T3:=oa3 .next .exit .fail p s
noncomputable def mb7:Lo Aa8 T3:=⟨En Zb6,0,ee6,[1,1,0,1,4,4],[0,3],.p,[⟨((.s (.c 3 (nL tV)))::((.s (.o .unk))::((.s (.o .unk))::((.s (.o (.int .i64)))::(ru2 17 []))))),[],fun a H=>(⟨(rL tV (slT a 0))⟩,⟨(toI (slT a 3))⟩)⟩],ua5,[(none,fun p s=>⟨[(i 3)],[]⟩),(some 0,fun p s=>⟨((eL tV p.e7)::(.unk::(.unk::((i s.is3)::(ra 3 ((i s.is3)::((eL tV p.e7)::((i (↑(List.length p.e7):Int))::((b (decide (s.is3 < (↑(List.length p.e7):Int))))::(ra 10 [])))))))))),[]⟩)],Ac5⟩
theorem Ac6:mb7.Ok:=Lo.ok [] (by kernel_rfl) .nil rfl (.cons (fun a H=>by kernel_rfl) .nil) fun p s=>(.of @oa3 (fun F _ _ _ _ _=>by unfold oa3;(repeat' apply l7 (f:=F))<;>rfl) (by kernel_rfl))
noncomputable def Ra4 (x:List V3):Option (b7×List b8):=let t1:=(lp (ua5 (⟨(rt tV x)⟩:Aa8)) (⟨0⟩:T3));let t2:=(db1 (rt tV (rt tV x)));(sl (decide ((↑(List.length x):Int) > 48)) (some ((i 2),[])) (sl ((cnE tV x)&&true) (sl (Nat.beq t1.1 1) (some ((i 3),[])) (sl (Nat.beq t1.1 2) (sl (okE tV (rt tV x)) (sl (Ma9 (rt tV (rt tV x))) (sl t2 (some ((i 11),[])) (some ((i 0),[]))) none) none) none)) none))
noncomputable def Fb7 (x:List V3):Int:=I5 (one r1I) (Ra4 x)
noncomputable def Fb8 (x:List V3):Bool:=okO (one r1I) (Ra4 x)
noncomputable def kc7:Sum:=da3 (V2 tV) (fun x=>.guard (Fb8 x) (.ret ((one r1I).enc (Fb7 x),[])))
theorem Xc8:g7 prog G 182 kc7:=wa2 (bd Ee0 Ic8) (one r1I) (o:=Ra4) fun x=>ya4 (.s .p (.s .p (.s (.s .p (.b (.u mb7.ls))) .p))) [mb7.pr] (by kernel_rfl) (.cons Ac6 .nil) (by kernel_rfl)
noncomputable def Zb7:List (Nat×Sum):=[(194,Rb7)]
theorem Ic9:j7 prog G Zb7:=⟨kc5,trivial⟩
structure Aa9 where
 bc5:List V3
 i5:Int
 c7:Int
 i6:Int
 d9:Int
structure T4 where
 is5:Int
noncomputable def Ac7 (p:Aa9) (s:T4):St:=⟨(.unk::((eL tV p.bc5)::((.ptr 0 0 0 0)::(.unk::(.unk::((i s.is5)::(ra 13 []))))))),[⟨0,4,[[(i p.i5),(i p.c7),(i p.i6),(i p.d9)]],true,false,0⟩]⟩
noncomputable def oa4 {α:Type} (k:T4→α) (e:Nat→α) (z:α) (p:Aa9) (s:T4):α:=let t1:=(vb6 (⟨(⟨p.i5,p.c7,p.i6⟩:V3),p.d9⟩:Pln) (gL tV p.bc5 s.is5.toNat));(sl (decide (s.is5 < (↑(List.length p.bc5):Int))) (sl (inB s.is5 (List.length p.bc5)) (sl (vb7 (⟨(⟨p.i5,p.c7,p.i6⟩:V3),p.d9⟩:Pln) (gL tV p.bc5 s.is5.toNat)) (sl (decide (t1 > 0)) (e 1) (k ⟨(W (s.is5+1))⟩)) z) z) (e 2))
noncomputable def ua6 (p:Aa9) (s:T4):Stp T4:=oa4 .next .exit .fail p s
noncomputable def mb8:Lo Aa9 T4:=⟨En Zb7,0,ee7,[1,0,1,4,4],[1,2,5],.p,[⟨((.s (.o .unk))::((.s (.c 3 (nL tV)))::((.s (.o (.ptr 0 0 0 0)))::((.s (.o .unk))::((.s (.o .unk))::((.s (.o (.int .i64)))::(ru2 13 []))))))),[⟨0,4,true,(some [[(.o (.int .i64)),(.o (.int .i64)),(.o (.int .i64)),(.o (.int .i64))]])⟩],fun a H=>(⟨(rL tV (slT a 1)),(toI (slT (rwT (elT H 0) 0) 0)),(toI (slT (rwT (elT H 0) 0) 1)),(toI (slT (rwT (elT H 0) 0) 2)),(toI (slT (rwT (elT H 0) 0) 3))⟩,⟨(toI (slT a 5))⟩)⟩],ua6,[(none,fun p s=>⟨[(b false)],[]⟩),(some 0,fun p s=>⟨(.unk::((eL tV p.bc5)::((.ptr 0 0 0 0)::(.unk::(.unk::((i s.is5)::((i s.is5)::((eL tV p.bc5)::((i (↑(List.length p.bc5):Int))::((b (decide (s.is5 < (↑(List.length p.bc5):Int))))::(ra 9 []))))))))))),[⟨0,4,[[(i p.i5),(i p.c7),(i p.i6),(i p.d9)]],true,false,0⟩]⟩)],Ac7⟩
theorem Ac8:mb8.Ok:=Lo.ok [] (by kernel_rfl) .nil rfl (.cons (fun a H=>by kernel_rfl) .nil) fun p s=>(.of @oa4 (fun F _ _ _ _ _=>by unfold oa4;(repeat' apply l7 (f:=F))<;>rfl) (by kernel_rfl))
noncomputable def Ra5 (x:Pln) (y:List V3):Option (b7×List b8):=let t1:=(lp (ua6 (⟨(rt tV y),x.n.x,x.n.y,x.n.z,x.b⟩:Aa9)) (⟨0⟩:T4));(sl ((cnE tV y)&&true) (sl (Nat.beq t1.1 1) (some ((b false),[])) (sl (Nat.beq t1.1 2) (some ((b true),[])) none)) none)
noncomputable def Ra6 (x:Pln) (y:List V3):Bool:=I5 (one r1B) (Ra5 x y)
noncomputable def ga3 (x:Pln) (y:List V3):Bool:=okO (one r1B) (Ra5 x y)
noncomputable def kc8:Sum:=ja0 (R2 tP) (V2 tV) (fun x y=>.guard (ga3 x y) (.ret ((one r1B).enc (Ra6 x y),[])))
theorem Xc9:g7 prog G 183 kc8:=eb7 (bd Ee1 Ic9) (one r1B) (o:=Ra5) fun x y=>ya4 (.s .p (.s (.s .p (.b (.u mb8.ls))) .p)) [mb8.pr] (by kernel_rfl) (.cons Ac8 .nil) (by kernel_rfl)
noncomputable def Ac9:List (Nat×Sum):=[(180,Nb3)]
theorem ld4:j7 prog G Ac9:=⟨Ac4,trivial⟩
structure Ra7 where
 c8:List Pln
 i5:Int
 c7:Int
 i6:Int
 d9:Int
structure ga4 where
 is5:Int
noncomputable def Yc0 (p:Ra7) (s:ga4):St:=⟨((eL tP p.c8)::(.unk::(.unk::((.ptr 0 0 0 0)::(.unk::((i s.is5)::(ra 42 []))))))),[⟨0,4,[[(i p.i5),(i p.c7),(i p.i6),(i p.d9)]],true,false,0⟩]⟩
noncomputable def Ba0 {α:Type} (k:ga4→α) (e:Nat→α) (z:α) (p:Ra7) (s:ga4):α:=let t1:=(Aa7 (gL tP p.c8 s.is5.toNat) (⟨(⟨p.i5,p.c7,p.i6⟩:V3),p.d9⟩:Pln));(sl (decide (s.is5 < (↑(List.length p.c8):Int))) (sl (inB s.is5 (List.length p.c8)) (sl (mb6 (gL tP p.c8 s.is5.toNat) (⟨(⟨p.i5,p.c7,p.i6⟩:V3),p.d9⟩:Pln)) (sl (decide (t1 < 0)) (k ⟨(W (s.is5+1))⟩) (e 1)) z) z) (e 2))
noncomputable def xa0 (p:Ra7) (s:ga4):Stp ga4:=Ba0 .next .exit .fail p s
noncomputable def Fb9:Lo Ra7 ga4:=⟨En Ac9,0,ee8,[1,1,0,4,4],[0,3,5],.p,[⟨((.s (.c 4 (nL tP)))::((.s (.o .unk))::((.s (.o .unk))::((.s (.o (.ptr 0 0 0 0)))::((.s (.o .unk))::((.s (.o (.int .i64)))::(ru2 42 []))))))),[⟨0,4,true,(some [[(.o (.int .i64)),(.o (.int .i64)),(.o (.int .i64)),(.o (.int .i64))]])⟩],fun a H=>(⟨(rL tP (slT a 0)),(toI (slT (rwT (elT H 0) 0) 0)),(toI (slT (rwT (elT H 0) 0) 1)),(toI (slT (rwT (elT H 0) 0) 2)),(toI (slT (rwT (elT H 0) 0) 3))⟩,⟨(toI (slT a 5))⟩)⟩],xa0,[(some 0,fun p s=>let t1:=(Aa7 (gL tP p.c8 s.is5.toNat) (⟨(⟨p.i5,p.c7,p.i6⟩:V3),p.d9⟩:Pln));⟨((eL tP p.c8)::(.unk::(.unk::((.ptr 0 0 0 0)::(.unk::((i s.is5)::(.unk::((i s.is5)::((eL tP p.c8)::((i (↑(List.length p.c8):Int))::((b (decide (s.is5 < (↑(List.length p.c8):Int))))::((b true)::((eL tP p.c8)::((i s.is5)::((.tptr [(i (gL tP p.c8 s.is5.toNat).n.x),(i (gL tP p.c8 s.is5.toNat).n.y),(i (gL tP p.c8 s.is5.toNat).n.z),(i (gL tP p.c8 s.is5.toNat).b)])::((.agg [(i (gL tP p.c8 s.is5.toNat).n.x),(i (gL tP p.c8 s.is5.toNat).n.y),(i (gL tP p.c8 s.is5.toNat).n.z),(i (gL tP p.c8 s.is5.toNat).b)])::((.agg [(i p.i5),(i p.c7),(i p.i6),(i p.d9)])::((i t1)::((b (decide (t1 < 0)))::((b (decide (t1 < 0)))::(ra 28 []))))))))))))))))))))),[⟨0,4,[[(i p.i5),(i p.c7),(i p.i6),(i p.d9)]],true,false,0⟩]⟩),(some 0,fun p s=>⟨((eL tP p.c8)::(.unk::(.unk::((.ptr 0 0 0 0)::(.unk::((i s.is5)::(.unk::((i s.is5)::((eL tP p.c8)::((i (↑(List.length p.c8):Int))::((b (decide (s.is5 < (↑(List.length p.c8):Int))))::((b false)::(u::(u::(u::(u::(u::(u::(u::((b false)::(ra 28 []))))))))))))))))))))),[⟨0,4,[[(i p.i5),(i p.c7),(i p.i6),(i p.d9)]],true,false,0⟩]⟩)],Yc0⟩
theorem Yc1:Fb9.Ok:=Lo.ok [] (by kernel_rfl) .nil rfl (.cons (fun a H=>by kernel_rfl) .nil) fun p s=>(.of @Ba0 (fun F _ _ _ _ _=>by unfold Ba0;(repeat' apply l7 (f:=F))<;>rfl) (by kernel_rfl))
noncomputable def qb6 (x:List Pln) (y:Pln):Option (b7×List b8):=let t1:=(lp (xa0 (⟨(rt tP x),y.n.x,y.n.y,y.n.z,y.b⟩:Ra7)) (⟨0⟩:ga4));let a0:=(l8 (fun k=>(fun k=>(tP).row (gL tP (rt tP x) k)) (0+k)) (List.range (t1.2.is5.toNat - 0)));let a1:=(l8 (fun k=>(fun k=>(tP).row (gL tP (rt tP x) k)) (t1.2.is5.toNat+k)) (List.range ((List.length (rt tP x)) - t1.2.is5.toNat)));let a2:=(inB t1.2.is5 ((List.length (rt tP x))+1));let a3:=(Nat.beq (0+(len a0)) (len (app [] a0))&&Nat.ble (((0+(len a0))+1)*32) room);let a4:=(((0+(len a0))+1)+(len a1));let a5:=(gL tP (rt tP x) t1.2.is5.toNat);let a6:=(Nat.beq 1 1&&Nat.ble ((1+(len a1))*32) room);let a7:=(Nat.beq 0 0&&Nat.ble ((0+(len a0))*32) room);(sl ((cnE tP x)&&true) (sl (Nat.beq t1.1 1) (sl (decide (t1.2.is5 < (↑(List.length (rt tP x)):Int))) (sl (inB t1.2.is5 (List.length (rt tP x))) (sl ((a5.n.x==y.n.x)&&((a5.n.y==y.n.y)&&((a5.n.z==y.n.z)&&((a5.b==y.b)&&true)))) (some ((eL tP (rt tP x)),[])) (sl a2 (sl (Nat.beq (len a0) 0) (sl a2 (sl (Nat.beq (len a1) 0) (some ((.sl 0 0 1 0),[⟨50,4,[[(i y.n.x),(i y.n.y),(i y.n.z),(i y.b)]],true,false,0⟩])) (sl a6 (some ((.sl 0 0 (1+(len a1)) 0),[⟨50,4,(app [[(i y.n.x),(i y.n.y),(i y.n.z),(i y.b)]] a1),true,false,0⟩])) none)) none) (sl a7 (sl a3 (sl a2 (sl (Nat.beq (len a1) 0) (some ((.sl 0 0 ((0+(len a0))+1) 0),[⟨50,4,(app (app [] a0) [[(i y.n.x),(i y.n.y),(i y.n.z),(i y.b)]]),true,false,0⟩])) (sl (Nat.beq ((0+(len a0))+1) (len (app (app [] a0) [[(i y.n.x),(i y.n.y),(i y.n.z),(i y.b)]]))&&Nat.ble (a4*32) room) (some ((.sl 0 0 a4 0),[⟨50,4,(app (app (app [] a0) [[(i y.n.x),(i y.n.y),(i y.n.z),(i y.b)]]) a1),true,false,0⟩])) none)) none) none) none)) none)) none) (sl a2 (sl (Nat.beq (len a0) 0) (sl a2 (sl (Nat.beq (len a1) 0) (some ((.sl 0 0 1 0),[⟨50,4,[[(i y.n.x),(i y.n.y),(i y.n.z),(i y.b)]],true,false,0⟩])) (sl a6 (some ((.sl 0 0 (1+(len a1)) 0),[⟨50,4,(app [[(i y.n.x),(i y.n.y),(i y.n.z),(i y.b)]] a1),true,false,0⟩])) none)) none) (sl a7 (sl a3 (sl a2 (sl (Nat.beq (len a1) 0) (some ((.sl 0 0 ((0+(len a0))+1) 0),[⟨50,4,(app (app [] a0) [[(i y.n.x),(i y.n.y),(i y.n.z),(i y.b)]]),true,false,0⟩])) (sl (Nat.beq ((0+(len a0))+1) (len (app (app [] a0) [[(i y.n.x),(i y.n.y),(i y.n.z),(i y.b)]]))&&Nat.ble (a4*32) room) (some ((.sl 0 0 a4 0),[⟨50,4,(app (app (app [] a0) [[(i y.n.x),(i y.n.y),(i y.n.z),(i y.b)]]) a1),true,false,0⟩])) none)) none) none) none)) none)) (sl (Nat.beq t1.1 2) (sl (decide (t1.2.is5 < (↑(List.length (rt tP x)):Int))) (sl (inB t1.2.is5 (List.length (rt tP x))) (sl ((a5.n.x==y.n.x)&&((a5.n.y==y.n.y)&&((a5.n.z==y.n.z)&&((a5.b==y.b)&&true)))) (some ((eL tP (rt tP x)),[])) (sl a2 (sl (Nat.beq (len a0) 0) (sl a2 (sl (Nat.beq (len a1) 0) (some ((.sl 0 0 1 0),[⟨50,4,[[(i y.n.x),(i y.n.y),(i y.n.z),(i y.b)]],true,false,0⟩])) (sl a6 (some ((.sl 0 0 (1+(len a1)) 0),[⟨50,4,(app [[(i y.n.x),(i y.n.y),(i y.n.z),(i y.b)]] a1),true,false,0⟩])) none)) none) (sl a7 (sl a3 (sl a2 (sl (Nat.beq (len a1) 0) (some ((.sl 0 0 ((0+(len a0))+1) 0),[⟨50,4,(app (app [] a0) [[(i y.n.x),(i y.n.y),(i y.n.z),(i y.b)]]),true,false,0⟩])) (sl (Nat.beq ((0+(len a0))+1) (len (app (app [] a0) [[(i y.n.x),(i y.n.y),(i y.n.z),(i y.b)]]))&&Nat.ble (a4*32) room) (some ((.sl 0 0 a4 0),[⟨50,4,(app (app (app [] a0) [[(i y.n.x),(i y.n.y),(i y.n.z),(i y.b)]]) a1),true,false,0⟩])) none)) none) none) none)) none)) none) (sl a2 (sl (Nat.beq (len a0) 0) (sl a2 (sl (Nat.beq (len a1) 0) (some ((.sl 0 0 1 0),[⟨50,4,[[(i y.n.x),(i y.n.y),(i y.n.z),(i y.b)]],true,false,0⟩])) (sl a6 (some ((.sl 0 0 (1+(len a1)) 0),[⟨50,4,(app [[(i y.n.x),(i y.n.y),(i y.n.z),(i y.b)]] a1),true,false,0⟩])) none)) none) (sl a7 (sl a3 (sl a2 (sl (Nat.beq (len a1) 0) (some ((.sl 0 0 ((0+(len a0))+1) 0),[⟨50,4,(app (app [] a0) [[(i y.n.x),(i y.n.y),(i y.n.z),(i y.b)]]),true,false,0⟩])) (sl (Nat.beq ((0+(len a0))+1) (len (app (app [] a0) [[(i y.n.x),(i y.n.y),(i y.n.z),(i y.b)]]))&&Nat.ble (a4*32) room) (some ((.sl 0 0 a4 0),[⟨50,4,(app (app (app [] a0) [[(i y.n.x),(i y.n.y),(i y.n.z),(i y.b)]]) a1),true,false,0⟩])) none)) none) none) none)) none)) none)) none)
noncomputable def H4 (x:List Pln) (y:Pln):List Pln:=I5 (one (r1L tP)) (qb6 x y)
noncomputable def qa1 (x:List Pln) (y:Pln):Bool:=okO (one (r1L tP)) (qb6 x y)
noncomputable def Pc4:Sum:=ja0 (V2 tP) (R2 tP) (fun x y=>.guard (qa1 x y) (.ret ((one (r1L tP)).enc (H4 x y),[])))
theorem ud5:g7 prog G 184 Pc4:=eb7 (bd Ee2 ld4) (one (r1L tP)) (o:=qb6) fun x y=>ya4 (.s .p (.s .p (.s (.b (.u Fb9.ls)) .p))) [Fb9.pr] (by kernel_rfl) (.cons Yc1 .nil) (by kernel_rfl)
noncomputable def Xa6:List (Nat×Sum):=[(182,kc7),(115,Oa0),(183,kc8),(184,Pc4),(119,Rb6)]
theorem Jc0:j7 prog G Xa6:=⟨Xc8,cb7,Xc9,ud5,kc4,trivial⟩
structure T5 where
 e7:List V3
 is6:Int
 is7:Int
structure E0 where
 ph:Nat
 is8:Int
 ca7:List Pln
noncomputable def oc0 (p:T5) (s:E0):St:=⟨((eL tV p.e7)::(ra 4 ((.v (.slice none 0 0))::((i p.is6)::((i p.is7)::((i s.is8)::(ra 56 []))))))),[]⟩
noncomputable def oc1 (p:T5) (s:E0):St:=⟨((eL tV p.e7)::(ra 4 ((eL tP s.ca7)::((i p.is6)::((i p.is7)::((i s.is8)::(ra 56 []))))))),[]⟩
noncomputable def Bc0 (p:T5) (s:E0):St:=(sel (Nat.beq s.ph 1) (oc1 p s) (oc0 p s))
noncomputable def X0 {α:Type} (k:E0→α) (e:Nat→α) (z:α) (p:T5) (s:E0):α:=let t1:=(ha5 (gL tV p.e7 p.is6.toNat) (gL tV p.e7 p.is7.toNat) (gL tV p.e7 s.is8.toNat));let t2:=(Ra6 t1.1 (rt tV p.e7));let t3:=(H4 [] t1.1);let t4:=(vb5 t1.1);let t5:=(Ra6 t4 (rt tV p.e7));let t6:=(H4 (rt tP t3) t4);let t7:=(H4 [] t4);(sl (decide (s.is8 < p.is7)) (sl (inB p.is6 (List.length p.e7)) (sl (inB p.is7 (List.length p.e7)) (sl (inB s.is8 (List.length p.e7)) (sl (ha6 (gL tV p.e7 p.is6.toNat) (gL tV p.e7 p.is7.toNat) (gL tV p.e7 s.is8.toNat)) (sl (!t1.2) (k ⟨0,(W (s.is8+1)),[]⟩) (sl (okE tV p.e7) (sl (ga3 t1.1 (rt tV p.e7)) (sl t2 (sl (qa1 [] t1.1) (sl (okE tV p.e7) (sl (ga3 t4 (rt tV p.e7)) (sl t5 (sl (okE tP t3) (sl (qa1 (rt tP t3) t4) (k ⟨1,(W (s.is8+1)),t6⟩) z) z) (k ⟨1,(W (s.is8+1)),t3⟩)) z) z) z) (sl (okE tV p.e7) (sl (ga3 t4 (rt tV p.e7)) (sl t5 (sl (qa1 [] t4) (k ⟨1,(W (s.is8+1)),t7⟩) z) (k ⟨0,(W (s.is8+1)),[]⟩)) z) z)) z) z)) z) z) z) z) (e 1))
noncomputable def X1 {α:Type} (k:E0→α) (e:Nat→α) (z:α) (p:T5) (s:E0):α:=let t1:=(ha5 (gL tV p.e7 p.is6.toNat) (gL tV p.e7 p.is7.toNat) (gL tV p.e7 s.is8.toNat));let t2:=(Ra6 t1.1 (rt tV p.e7));let t3:=(H4 (rt tP s.ca7) t1.1);let t4:=(vb5 t1.1);let t5:=(Ra6 t4 (rt tV p.e7));let t6:=(H4 (rt tP t3) t4);let t7:=(H4 (rt tP s.ca7) t4);(sl (decide (s.is8 < p.is7)) (sl (inB p.is6 (List.length p.e7)) (sl (inB p.is7 (List.length p.e7)) (sl (inB s.is8 (List.length p.e7)) (sl (ha6 (gL tV p.e7 p.is6.toNat) (gL tV p.e7 p.is7.toNat) (gL tV p.e7 s.is8.toNat)) (sl (!t1.2) (k ⟨1,(W (s.is8+1)),s.ca7⟩) (sl (okE tV p.e7) (sl (ga3 t1.1 (rt tV p.e7)) (sl t2 (sl (okE tP s.ca7) (sl (qa1 (rt tP s.ca7) t1.1) (sl (okE tV p.e7) (sl (ga3 t4 (rt tV p.e7)) (sl t5 (sl (okE tP t3) (sl (qa1 (rt tP t3) t4) (k ⟨1,(W (s.is8+1)),t6⟩) z) z) (k ⟨1,(W (s.is8+1)),t3⟩)) z) z) z) z) (sl (okE tV p.e7) (sl (ga3 t4 (rt tV p.e7)) (sl t5 (sl (okE tP s.ca7) (sl (qa1 (rt tP s.ca7) t4) (k ⟨1,(W (s.is8+1)),t7⟩) z) z) (k ⟨1,(W (s.is8+1)),s.ca7⟩)) z) z)) z) z)) z) z) z) z) (e 2))
noncomputable def ua7 (p:T5) (s:E0):Stp E0:=(sel (Nat.beq s.ph 1) (X1 .next .exit .fail p s) (X0 .next .exit .fail p s))
noncomputable def mb9:Lo T5 E0:=⟨En Xa6,0,yd5,[1,1,1,1,0,1,4,4,1,0,4,1,4,4,1,0,4,1,4,4],[0,5,6,7,8],.p,[⟨((.s (.c 3 (nL tV)))::(ru2 4 ((.s (.o .nil))::((.s (.o (.int .i64)))::((.s (.o (.int .i64)))::((.s (.o (.int .i64)))::(ru2 56 []))))))),[],fun a H=>(⟨(rL tV (slT a 0)),(toI (slT a 6)),(toI (slT a 7))⟩,⟨0,(toI (slT a 8)),[]⟩)⟩,⟨((.s (.c 3 (nL tV)))::(ru2 4 ((.s (.c 4 (nL tP)))::((.s (.o (.int .i64)))::((.s (.o (.int .i64)))::((.s (.o (.int .i64)))::(ru2 56 []))))))),[],fun a H=>(⟨(rL tV (slT a 0)),(toI (slT a 6)),(toI (slT a 7))⟩,⟨1,(toI (slT a 8)),(rL tP (slT a 5))⟩)⟩],ua7,[(some 4,fun p s=>⟨((eL tV p.e7)::(ra 4 ((.v (.slice none 0 0))::((i p.is6)::((i p.is7)::((i s.is8)::(ra 18 ((i s.is8)::((i p.is7)::((b (decide (s.is8 < p.is7)))::(ra 35 []))))))))))),[]⟩),(some 4,fun p s=>⟨((eL tV p.e7)::(ra 4 ((eL tP s.ca7)::((i p.is6)::((i p.is7)::((i s.is8)::(ra 18 ((i s.is8)::((i p.is7)::((b (decide (s.is8 < p.is7)))::(ra 35 []))))))))))),[]⟩)],Bc0⟩
theorem Bc1:mb9.Ok:=Lo.ok [] (by kernel_rfl) .nil rfl (.cons (fun a H=>by kernel_rfl) (.cons (fun a H=>by kernel_rfl) .nil)) fun p s=>(.sel (Nat.beq s.ph 1) (.of @X1 (fun F _ _ _ _ _=>by unfold X1;(repeat' apply l7 (f:=F))<;>rfl) (by kernel_rfl)) (.of @X0 (fun F _ _ _ _ _=>by unfold X0;(repeat' apply l7 (f:=F))<;>rfl) (by kernel_rfl)))
structure T6 where
 is6:Int
structure E1 where
 ph:Nat
 e7:List V3
 is7:Int
 ca7:List Pln
noncomputable def oc2 (p:T6) (s:E1):St:=⟨((eL tV s.e7)::(ra 4 ((.v (.slice none 0 0))::((i p.is6)::((i s.is7)::(ra 57 [])))))),[]⟩
noncomputable def oc3 (p:T6) (s:E1):St:=⟨((eL tV s.e7)::(ra 4 ((eL tP s.ca7)::((i p.is6)::((i s.is7)::(ra 57 [])))))),[]⟩
noncomputable def Bc2 (p:T6) (s:E1):St:=(sel (Nat.beq s.ph 1) (oc3 p s) (oc2 p s))
noncomputable def X2 {α:Type} (k:E1→α) (e:Nat→α) (z:α) (p:T6) (s:E1):α:=let t1:=(lp (ua7 (⟨(rt tV s.e7),p.is6,s.is7⟩:T5)) (⟨0,0,[]⟩:E0));(sl (decide (s.is7 < p.is6)) (sl ((cnE tV s.e7)&&true) (sl (Nat.beq t1.1 1) (k ⟨0,(rt tV s.e7),(W (s.is7+1)),[]⟩) (sl (Nat.beq t1.1 2) (k ⟨1,(rt tV s.e7),(W (s.is7+1)),t1.2.ca7⟩) z)) z) (e 1))
noncomputable def X3 {α:Type} (k:E1→α) (e:Nat→α) (z:α) (p:T6) (s:E1):α:=let t1:=(lp (ua7 (⟨(rt tV s.e7),p.is6,s.is7⟩:T5)) (⟨1,0,(rt tP s.ca7)⟩:E0));(sl (decide (s.is7 < p.is6)) (sl ((cnE tV s.e7)&&((cnE tP s.ca7)&&true)) (sl (Nat.beq t1.1 1) (k ⟨0,(rt tV s.e7),(W (s.is7+1)),[]⟩) (sl (Nat.beq t1.1 2) (k ⟨1,(rt tV s.e7),(W (s.is7+1)),t1.2.ca7⟩) z)) z) (e 2))
noncomputable def ua8 (p:T6) (s:E1):Stp E1:=(sel (Nat.beq s.ph 1) (X3 .next .exit .fail p s) (X2 .next .exit .fail p s))
noncomputable def nb0:Lo T6 E1:=⟨En Xa6,0,yd5,[1,1,1,1,0,1,4,4,1,0,4,1,4,4],[0,5,6,7],(.s .p (.s (.b (.s .p (.b (.u mb9.ls)))) .p)),[⟨((.s (.c 3 (nL tV)))::(ru2 4 ((.s (.o .nil))::((.s (.o (.int .i64)))::((.s (.o (.int .i64)))::(ru2 57 [])))))),[],fun a H=>(⟨(toI (slT a 6))⟩,⟨0,(rL tV (slT a 0)),(toI (slT a 7)),[]⟩)⟩,⟨((.s (.c 3 (nL tV)))::(ru2 4 ((.s (.c 4 (nL tP)))::((.s (.o (.int .i64)))::((.s (.o (.int .i64)))::(ru2 57 [])))))),[],fun a H=>(⟨(toI (slT a 6))⟩,⟨1,(rL tV (slT a 0)),(toI (slT a 7)),(rL tP (slT a 5))⟩)⟩],ua8,[(some 2,fun p s=>⟨((eL tV s.e7)::(ra 4 ((.v (.slice none 0 0))::((i p.is6)::((i s.is7)::(ra 14 ((i s.is7)::((i p.is6)::((b (decide (s.is7 < p.is6)))::(ra 40 [])))))))))),[]⟩),(some 2,fun p s=>⟨((eL tV s.e7)::(ra 4 ((eL tP s.ca7)::((i p.is6)::((i s.is7)::(ra 14 ((i s.is7)::((i p.is6)::((b (decide (s.is7 < p.is6)))::(ra 40 [])))))))))),[]⟩)],Bc2⟩
theorem Bc3:nb0.Ok:=Lo.ok [mb9.pr] (by kernel_rfl) (.cons Bc1 .nil) rfl (.cons (fun a H=>by kernel_rfl) (.cons (fun a H=>by kernel_rfl) .nil)) fun p s=>(.sel (Nat.beq s.ph 1) (.of @X3 (fun F _ _ _ _ _=>by unfold X3;(repeat' apply l7 (f:=F))<;>rfl) (by kernel_rfl)) (.of @X2 (fun F _ _ _ _ _=>by unfold X2;(repeat' apply l7 (f:=F))<;>rfl) (by kernel_rfl)))
structure aa5 where
structure G6 where
 ph:Nat
 e7:List V3
 is6:Int
 ca7:List Pln
noncomputable def oc4 (p:aa5) (s:G6):St:=⟨((eL tV s.e7)::(ra 4 ((.v (.slice none 0 0))::((i s.is6)::(ra 58 []))))),[]⟩
noncomputable def oc5 (p:aa5) (s:G6):St:=⟨((eL tV s.e7)::(ra 4 ((eL tP s.ca7)::((i s.is6)::(ra 58 []))))),[]⟩
noncomputable def Bc4 (p:aa5) (s:G6):St:=(sel (Nat.beq s.ph 1) (oc5 p s) (oc4 p s))
noncomputable def X4 {α:Type} (k:G6→α) (e:Nat→α) (z:α) (p:aa5) (s:G6):α:=let t1:=(lp (ua8 (⟨s.is6⟩:T6)) (⟨0,(rt tV s.e7),0,[]⟩:E1));(sl (decide (s.is6 < (↑(List.length s.e7):Int))) (sl ((cnE tV s.e7)&&true) (sl (Nat.beq t1.1 1) (k ⟨0,t1.2.e7,(W (s.is6+1)),[]⟩) (sl (Nat.beq t1.1 2) (k ⟨1,t1.2.e7,(W (s.is6+1)),t1.2.ca7⟩) z)) z) (e 1))
noncomputable def X5 {α:Type} (k:G6→α) (e:Nat→α) (z:α) (p:aa5) (s:G6):α:=let t1:=(lp (ua8 (⟨s.is6⟩:T6)) (⟨1,(rt tV s.e7),0,(rt tP s.ca7)⟩:E1));(sl (decide (s.is6 < (↑(List.length s.e7):Int))) (sl ((cnE tV s.e7)&&((cnE tP s.ca7)&&true)) (sl (Nat.beq t1.1 1) (k ⟨0,t1.2.e7,(W (s.is6+1)),[]⟩) (sl (Nat.beq t1.1 2) (k ⟨1,t1.2.e7,(W (s.is6+1)),t1.2.ca7⟩) z)) z) (e 2))
noncomputable def Ja2 (p:aa5) (s:G6):Stp G6:=(sel (Nat.beq s.ph 1) (X5 .next .exit .fail p s) (X4 .next .exit .fail p s))
noncomputable def nb1:Lo aa5 G6:=⟨En Xa6,0,yd5,[1,1,1,1,0,1,4,4],[0,5,6],(.s .p (.s (.b (.s .p (.b (.u nb0.ls)))) .p)),[⟨((.s (.c 3 (nL tV)))::(ru2 4 ((.s (.o .nil))::((.s (.o (.int .i64)))::(ru2 58 []))))),[],fun a H=>(⟨⟩,⟨0,(rL tV (slT a 0)),(toI (slT a 6)),[]⟩)⟩,⟨((.s (.c 3 (nL tV)))::(ru2 4 ((.s (.c 4 (nL tP)))::((.s (.o (.int .i64)))::(ru2 58 []))))),[],fun a H=>(⟨⟩,⟨1,(rL tV (slT a 0)),(toI (slT a 6)),(rL tP (slT a 5))⟩)⟩],Ja2,[(some 0,fun p s=>⟨((eL tV s.e7)::(ra 4 ((.v (.slice none 0 0))::((i s.is6)::(ra 9 ((i s.is6)::((eL tV s.e7)::((i (↑(List.length s.e7):Int))::((b (decide (s.is6 < (↑(List.length s.e7):Int))))::(ra 45 [])))))))))),[]⟩),(some 0,fun p s=>⟨((eL tV s.e7)::(ra 4 ((eL tP s.ca7)::((i s.is6)::(ra 9 ((i s.is6)::((eL tV s.e7)::((i (↑(List.length s.e7):Int))::((b (decide (s.is6 < (↑(List.length s.e7):Int))))::(ra 45 [])))))))))),[]⟩)],Bc4⟩
theorem Bc5:nb1.Ok:=Lo.ok [nb0.pr] (by kernel_rfl) (.cons Bc3 .nil) rfl (.cons (fun a H=>by kernel_rfl) (.cons (fun a H=>by kernel_rfl) .nil)) fun p s=>(.sel (Nat.beq s.ph 1) (.of @X5 (fun F _ _ _ _ _=>by unfold X5;(repeat' apply l7 (f:=F))<;>rfl) (by kernel_rfl)) (.of @X4 (fun F _ _ _ _ _=>by unfold X4;(repeat' apply l7 (f:=F))<;>rfl) (by kernel_rfl)))
noncomputable def Ra8 (x:List V3):Option (b7×List b8):=let t1:=(Fb7 (rt tV x));let t2:=(lp (Ja2 (⟨⟩:aa5)) (⟨0,(rt tV x),0,[]⟩:G6));(sl (okE tV x) (sl (Fb8 (rt tV x)) (sl (t1 != 0) (some ((.tup [(.v (.slice none 0 0)),(i t1)]),[])) (sl ((cnE tV x)&&true) (sl (Nat.beq t2.1 1) (some ((.tup [(.v (.slice none 0 0)),(i 0)]),[])) (sl (Nat.beq t2.1 2) (some ((.tup [(eL tP t2.2.ca7),(i 0)]),[])) none)) none)) none) none)
noncomputable def jb1 (x:List V3):List Pln×Int:=I5 (two (r1L tP) r1I) (Ra8 x)
noncomputable def Ea8 (x:List V3):Bool:=okO (two (r1L tP) r1I) (Ra8 x)
noncomputable def kc9:Sum:=da3 (V2 tV) (fun x=>.guard (Ea8 x) (.ret ((two (r1L tP) r1I).enc (jb1 x),[])))
theorem Yc2:g7 prog G 112 kc9:=wa2 (bd Be3 Jc0) (two (r1L tP) r1I) (o:=Ra8) fun x=>ya4 (.s .p (.s .p (.s .p (.s .p (.s (.s .p (.b (.u nb1.ls))) .p))))) [nb1.pr] (by kernel_rfl) (.cons Bc5 .nil) (by kernel_rfl)
noncomputable def Nb4:List (Nat×Sum):=[(98,oa1),(124,Rb8)]
theorem Bc6:j7 prog G Nb4:=⟨wa9,kc6,trivial⟩
structure U9 where
 is4:Int
structure z6 where
 ph:Nat
 is6:Int
 f8:List Int
 c7:Int
 ns5:Nat
 eh1:List (List b7)
noncomputable def hc3 (p:U9) (s:z6):St:=⟨(ra 3 ((.ptr 0 0 0 0)::((i p.is4)::((.v (.slice none 0 0))::((i s.is6)::(ra 127 [])))))),[⟨0,2,[[(eL tI s.f8),(i s.c7)]],true,false,0⟩]⟩
noncomputable def hc5 (p:U9) (s:z6):St:=⟨(ra 3 ((.ptr 0 0 0 0)::((i p.is4)::((.sl 1 0 s.ns5 0)::((i s.is6)::(ra 127 [])))))),[⟨0,2,[[(eL tI s.f8),(i s.c7)]],true,false,0⟩,⟨36,3,s.eh1,true,false,0⟩]⟩
noncomputable def oc6 (p:U9) (s:z6):St:=(sel (Nat.beq s.ph 1) (hc5 p s) (hc3 p s))
noncomputable def ka7 {α:Type} (k:z6→α) (e:Nat→α) (z:α) (p:U9) (s:z6):α:=let t1:=(k9 ⟨17,(rt tI s.f8),s.c7⟩);let t2:=(k9 ⟨17,(rt tI (rt tI s.f8)),t1.c7⟩);let t3:=(k9 ⟨17,(rt tI (rt tI (rt tI s.f8))),t2.c7⟩);let t4:=(k9 ⟨6,(rt tI (rt tI (rt tI (rt tI s.f8)))),t3.c7⟩);(sl (decide (s.is6 < p.is4)) (sl ((cnE tI s.f8)&&true) (sl (Nat.beq t1.alt 1) (sl ((cnE tI (rt tI s.f8))&&true) (sl (Nat.beq t2.alt 1) (sl ((cnE tI (rt tI (rt tI s.f8)))&&true) (sl (Nat.beq t3.alt 1) (sl ((cnE tI (rt tI (rt tI (rt tI s.f8))))&&true) (sl (Nat.beq t4.alt 1) (sl (t4.is0==1) (sl (decide (s.is6 > 1)) z (sl (t4.is0==2) (sl (decide (s.is6 > 0)) z (sl (t4.is0==3) (sl (decide (s.is6 > 2)) z (k ⟨1,(W (s.is6+1)),(rt tI (rt tI (rt tI (rt tI s.f8)))),t4.c7,1,[[(i (W (t1.is0 - 8))),(i (W (t2.is0 - 8))),(i (W (t3.is0 - 8)))]]⟩)) (k ⟨1,(W (s.is6+1)),(rt tI (rt tI (rt tI (rt tI s.f8)))),t4.c7,1,[[(i (W (t1.is0 - 8))),(i (W (t2.is0 - 8))),(i (W (t3.is0 - 8)))]]⟩))) (sl (t4.is0==3) (sl (decide (s.is6 > 2)) z (k ⟨1,(W (s.is6+1)),(rt tI (rt tI (rt tI (rt tI s.f8)))),t4.c7,1,[[(i (W (t1.is0 - 8))),(i (W (t2.is0 - 8))),(i (W (t3.is0 - 8)))]]⟩)) (k ⟨1,(W (s.is6+1)),(rt tI (rt tI (rt tI (rt tI s.f8)))),t4.c7,1,[[(i (W (t1.is0 - 8))),(i (W (t2.is0 - 8))),(i (W (t3.is0 - 8)))]]⟩)))) (sl (t4.is0==2) (sl (decide (s.is6 > 0)) z (sl (t4.is0==3) (sl (decide (s.is6 > 2)) z (k ⟨1,(W (s.is6+1)),(rt tI (rt tI (rt tI (rt tI s.f8)))),t4.c7,1,[[(i (W (t1.is0 - 8))),(i (W (t2.is0 - 8))),(i (W (t3.is0 - 8)))]]⟩)) (k ⟨1,(W (s.is6+1)),(rt tI (rt tI (rt tI (rt tI s.f8)))),t4.c7,1,[[(i (W (t1.is0 - 8))),(i (W (t2.is0 - 8))),(i (W (t3.is0 - 8)))]]⟩))) (sl (t4.is0==3) (sl (decide (s.is6 > 2)) z (k ⟨1,(W (s.is6+1)),(rt tI (rt tI (rt tI (rt tI s.f8)))),t4.c7,1,[[(i (W (t1.is0 - 8))),(i (W (t2.is0 - 8))),(i (W (t3.is0 - 8)))]]⟩)) (k ⟨1,(W (s.is6+1)),(rt tI (rt tI (rt tI (rt tI s.f8)))),t4.c7,1,[[(i (W (t1.is0 - 8))),(i (W (t2.is0 - 8))),(i (W (t3.is0 - 8)))]]⟩)))) z) z) z) z) z) z) z) z) (e 1))
noncomputable def H5 {α:Type} (k:z6→α) (e:Nat→α) (z:α) (p:U9) (s:z6):α:=let t1:=(k9 ⟨17,(rt tI s.f8),s.c7⟩);let a0:=(i9 s.eh1 (0+(W (s.is6 - 1)).toNat));let a1:=(Nat.beq s.ns5 (len s.eh1)&&Nat.ble ((s.ns5+1)*24) room);let a3:=(f0 (i9 s.eh1 (0+(W (s.is6 - 2)).toNat)) 0);let a4:=((Nat.blt (0+(W (s.is6 - 1)).toNat) (len s.eh1))&&(Nat.ble (2+1) (len a0)));let a5:=(i (W (Int.tdiv (W ((toI (hdA (tlA (f0 a0 0))))+(toI (hdA (tlA a3))))) 2)));let a6:=(i (W (Int.tdiv (W ((toI (hdA (f0 a0 0)))+(toI (hdA a3)))) 2)));let a7:=(app s.eh1 [[a6,a5,(i (W (Int.tdiv (W ((toI (hdA (tlA (tlA (f0 a0 0)))))+(toI (hdA (tlA (tlA a3)))))) 2)))]]);let a8:=(inB (W (s.is6 - 1)) s.ns5);let a9:=(i (toI (hdA (tlA (f0 a0 0)))));let a10:=((Nat.blt (0+(W (s.is6 - 1)).toNat) (len s.eh1))&&(Nat.ble (0+3) (len a0)));let a11:=(i (toI (hdA (f0 a0 0))));let a12:=(app s.eh1 [[a11,a9,(i (toI (hdA (tlA (tlA (f0 a0 0))))))]]);let a13:=(i (toI (hdA (f0 a0 2))));let a14:=(rt tI (rt tI s.f8));let t2:=(k9 ⟨17,a14,t1.c7⟩);let t3:=(k9 ⟨17,(rt tI a14),t2.c7⟩);let a2:=(rt tI (rt tI a14));let t4:=(k9 ⟨6,a2,t3.c7⟩);(sl (decide (s.is6 < p.is4)) (sl ((cnE tI s.f8)&&true) (sl (Nat.beq t1.alt 1) (sl ((cnE tI (rt tI s.f8))&&true) (sl (Nat.beq t2.alt 1) (sl ((cnE tI a14)&&true) (sl (Nat.beq t3.alt 1) (sl ((cnE tI (rt tI a14))&&true) (sl (Nat.beq t4.alt 1) (sl (t4.is0==1) (sl (decide (s.is6 > 1)) (sl a8 (sl (a10&&(K7 [(CK.int .i64),(CK.int .i64),(CK.int .i64)] (f0 a0 0))) (sl (inB (W (s.is6 - 2)) s.ns5) (sl (((Nat.blt (0+(W (s.is6 - 2)).toNat) (len s.eh1))&&(Nat.ble (0+3) (len (i9 s.eh1 (0+(W (s.is6 - 2)).toNat)))))&&(K7 [(CK.int .i64),(CK.int .i64),(CK.int .i64)] a3)) (sl (t4.is0==2) (sl (decide (s.is6 > 0)) (sl a8 (sl (a10&&(K7 [(CK.int .i64),(CK.int .i64),(CK.int .i64)] (f0 a0 0))) (sl (t4.is0==3) (sl (decide (s.is6 > 2)) (sl a8 (sl (a4&&(K7 [(CK.int .i64)] (f0 a0 2))) (sl a1 (k ⟨1,(W (s.is6+1)),a2,t4.c7,(s.ns5+1),(app s.eh1 [[a11,a9,a13]])⟩) z) z) z) (sl a1 (k ⟨1,(W (s.is6+1)),a2,t4.c7,(s.ns5+1),a12⟩) z)) (sl a1 (k ⟨1,(W (s.is6+1)),a2,t4.c7,(s.ns5+1),a12⟩) z)) z) z) (sl (t4.is0==3) (sl (decide (s.is6 > 2)) (sl a8 (sl (a4&&(K7 [(CK.int .i64)] (f0 a0 2))) (sl a1 (k ⟨1,(W (s.is6+1)),a2,t4.c7,(s.ns5+1),(app s.eh1 [[a6,a5,a13]])⟩) z) z) z) (sl a1 (k ⟨1,(W (s.is6+1)),a2,t4.c7,(s.ns5+1),a7⟩) z)) (sl a1 (k ⟨1,(W (s.is6+1)),a2,t4.c7,(s.ns5+1),a7⟩) z))) (sl (t4.is0==3) (sl (decide (s.is6 > 2)) (sl a8 (sl (a4&&(K7 [(CK.int .i64)] (f0 a0 2))) (sl a1 (k ⟨1,(W (s.is6+1)),a2,t4.c7,(s.ns5+1),(app s.eh1 [[a6,a5,a13]])⟩) z) z) z) (sl a1 (k ⟨1,(W (s.is6+1)),a2,t4.c7,(s.ns5+1),a7⟩) z)) (sl a1 (k ⟨1,(W (s.is6+1)),a2,t4.c7,(s.ns5+1),a7⟩) z))) z) z) z) z) (sl (t4.is0==2) (sl (decide (s.is6 > 0)) (sl a8 (sl (a10&&(K7 [(CK.int .i64),(CK.int .i64),(CK.int .i64)] (f0 a0 0))) (sl (t4.is0==3) (sl (decide (s.is6 > 2)) (sl a8 (sl (a4&&(K7 [(CK.int .i64)] (f0 a0 2))) (sl a1 (k ⟨1,(W (s.is6+1)),a2,t4.c7,(s.ns5+1),(app s.eh1 [[a11,a9,a13]])⟩) z) z) z) (sl a1 (k ⟨1,(W (s.is6+1)),a2,t4.c7,(s.ns5+1),a12⟩) z)) (sl a1 (k ⟨1,(W (s.is6+1)),a2,t4.c7,(s.ns5+1),a12⟩) z)) z) z) (sl (t4.is0==3) (sl (decide (s.is6 > 2)) (sl a8 (sl (a4&&(K7 [(CK.int .i64)] (f0 a0 2))) (sl a1 (k ⟨1,(W (s.is6+1)),a2,t4.c7,(s.ns5+1),(app s.eh1 [[(i (W (t1.is0 - 8))),(i (W (t2.is0 - 8))),a13]])⟩) z) z) z) (sl a1 (k ⟨1,(W (s.is6+1)),a2,t4.c7,(s.ns5+1),(app s.eh1 [[(i (W (t1.is0 - 8))),(i (W (t2.is0 - 8))),(i (W (t3.is0 - 8)))]])⟩) z)) (sl a1 (k ⟨1,(W (s.is6+1)),a2,t4.c7,(s.ns5+1),(app s.eh1 [[(i (W (t1.is0 - 8))),(i (W (t2.is0 - 8))),(i (W (t3.is0 - 8)))]])⟩) z))) (sl (t4.is0==3) (sl (decide (s.is6 > 2)) (sl a8 (sl (a4&&(K7 [(CK.int .i64)] (f0 a0 2))) (sl a1 (k ⟨1,(W (s.is6+1)),a2,t4.c7,(s.ns5+1),(app s.eh1 [[(i (W (t1.is0 - 8))),(i (W (t2.is0 - 8))),a13]])⟩) z) z) z) (sl a1 (k ⟨1,(W (s.is6+1)),a2,t4.c7,(s.ns5+1),(app s.eh1 [[(i (W (t1.is0 - 8))),(i (W (t2.is0 - 8))),(i (W (t3.is0 - 8)))]])⟩) z)) (sl a1 (k ⟨1,(W (s.is6+1)),a2,t4.c7,(s.ns5+1),(app s.eh1 [[(i (W (t1.is0 - 8))),(i (W (t2.is0 - 8))),(i (W (t3.is0 - 8)))]])⟩) z)))) (sl (t4.is0==2) (sl (decide (s.is6 > 0)) (sl a8 (sl (a10&&(K7 [(CK.int .i64),(CK.int .i64),(CK.int .i64)] (f0 a0 0))) (sl (t4.is0==3) (sl (decide (s.is6 > 2)) (sl a8 (sl (a4&&(K7 [(CK.int .i64)] (f0 a0 2))) (sl a1 (k ⟨1,(W (s.is6+1)),a2,t4.c7,(s.ns5+1),(app s.eh1 [[a11,a9,a13]])⟩) z) z) z) (sl a1 (k ⟨1,(W (s.is6+1)),a2,t4.c7,(s.ns5+1),a12⟩) z)) (sl a1 (k ⟨1,(W (s.is6+1)),a2,t4.c7,(s.ns5+1),a12⟩) z)) z) z) (sl (t4.is0==3) (sl (decide (s.is6 > 2)) (sl a8 (sl (a4&&(K7 [(CK.int .i64)] (f0 a0 2))) (sl a1 (k ⟨1,(W (s.is6+1)),a2,t4.c7,(s.ns5+1),(app s.eh1 [[(i (W (t1.is0 - 8))),(i (W (t2.is0 - 8))),a13]])⟩) z) z) z) (sl a1 (k ⟨1,(W (s.is6+1)),a2,t4.c7,(s.ns5+1),(app s.eh1 [[(i (W (t1.is0 - 8))),(i (W (t2.is0 - 8))),(i (W (t3.is0 - 8)))]])⟩) z)) (sl a1 (k ⟨1,(W (s.is6+1)),a2,t4.c7,(s.ns5+1),(app s.eh1 [[(i (W (t1.is0 - 8))),(i (W (t2.is0 - 8))),(i (W (t3.is0 - 8)))]])⟩) z))) (sl (t4.is0==3) (sl (decide (s.is6 > 2)) (sl a8 (sl (a4&&(K7 [(CK.int .i64)] (f0 a0 2))) (sl a1 (k ⟨1,(W (s.is6+1)),a2,t4.c7,(s.ns5+1),(app s.eh1 [[(i (W (t1.is0 - 8))),(i (W (t2.is0 - 8))),a13]])⟩) z) z) z) (sl a1 (k ⟨1,(W (s.is6+1)),a2,t4.c7,(s.ns5+1),(app s.eh1 [[(i (W (t1.is0 - 8))),(i (W (t2.is0 - 8))),(i (W (t3.is0 - 8)))]])⟩) z)) (sl a1 (k ⟨1,(W (s.is6+1)),a2,t4.c7,(s.ns5+1),(app s.eh1 [[(i (W (t1.is0 - 8))),(i (W (t2.is0 - 8))),(i (W (t3.is0 - 8)))]])⟩) z)))) z) z) z) z) z) z) z) z) (e 2))
noncomputable def Ca3 (p:U9) (s:z6):Stp z6:=(sel (Nat.beq s.ph 1) (H5 .next .exit .fail p s) (ka7 .next .exit .fail p s))
noncomputable def db2:Lo U9 z6:=⟨En Nb4,0,qe7,[1,1,1,1,0,1,4,4],[3,4,5,6],.p,[⟨(ru2 3 ((.s (.o (.ptr 0 0 0 0)))::((.s (.o (.int .i64)))::((.s (.o .nil))::((.s (.o (.int .i64)))::(ru2 127 [])))))),[⟨0,2,true,(some [[(.c 1 (nL tI)),(.o (.int .i64))]])⟩],fun a H=>(⟨(toI (slT a 4))⟩,⟨0,(toI (slT a 6)),(rL tI (slT (rwT (elT H 0) 0) 0)),(toI (slT (rwT (elT H 0) 0) 1)),0,[]⟩)⟩,⟨(ru2 3 ((.s (.o (.ptr 0 0 0 0)))::((.s (.o (.int .i64)))::((.s (.o (.sl 1 0 (some 0) none)))::((.s (.o (.int .i64)))::(ru2 127 [])))))),[⟨0,2,true,(some [[(.c 1 (nL tI)),(.o (.int .i64))]])⟩,⟨36,3,true,none⟩],fun a H=>(⟨(toI (slT a 4))⟩,⟨1,(toI (slT a 6)),(rL tI (slT (rwT (elT H 0) 0) 0)),(toI (slT (rwT (elT H 0) 0) 1)),(slN (slT a 5)),(elT H 1)⟩)⟩],Ca3,[(some 0,fun p s=>⟨(ra 3 ((.ptr 0 0 0 0)::((i p.is4)::((.v (.slice none 0 0))::((i s.is6)::(ra 11 ((i s.is6)::((i p.is4)::((b (decide (s.is6 < p.is4)))::(ra 113 [])))))))))),[⟨0,2,[[(eL tI s.f8),(i s.c7)]],true,false,0⟩]⟩),(some 0,fun p s=>⟨(ra 3 ((.ptr 0 0 0 0)::((i p.is4)::((.sl 1 0 s.ns5 0)::((i s.is6)::(ra 11 ((i s.is6)::((i p.is4)::((b (decide (s.is6 < p.is4)))::(ra 113 [])))))))))),[⟨0,2,[[(eL tI s.f8),(i s.c7)]],true,false,0⟩,⟨36,3,s.eh1,true,false,0⟩]⟩)],oc6⟩
theorem oc7:db2.Ok:=Lo.ok [] (by kernel_rfl) .nil rfl (.cons (fun a H=>by kernel_rfl) (.cons (fun a H=>by kernel_rfl) .nil)) fun p s=>(.sel (Nat.beq s.ph 1) (.of @H5 (fun F _ _ _ _ _=>by unfold H5;(repeat' apply l7 (f:=F))<;>rfl) (by kernel_rfl)) (.of @ka7 (fun F _ _ _ _ _=>by unfold ka7;(repeat' apply l7 (f:=F))<;>rfl) (by kernel_rfl)))
noncomputable def Ja3 (x:List Int):Option (b7×List b8):=let t1:=(k9 ⟨5,(rt tI x),0⟩);let t2:=(lp (Ca3 (⟨(W (4+t1.is0))⟩:U9)) (⟨0,0,(rt tI (rt tI x)),t1.c7,0,[]⟩:z6));let t3:=(db1 []);let t4:=(db1 (lsL tV t2.2.ns5 (fun k=>i9 t2.2.eh1 (0+k))));let a0:=(f0 (i9 t2.2.eh1 0) 0);let a1:=(i (toI (hdA (tlA (tlA a0)))));let a2:=(i (W ((toI (hdA a0)) - 3)));let a3:=(setAt t2.2.eh1 1 (I7 (i9 t2.2.eh1 1) 0 [a2,(i (toI (hdA (tlA a0)))),a1]));let a4:=(i (W ((toI (hdA (tlA a0))) - 2)));(sl ((cnE tI x)&&true) (sl (Nat.beq t1.alt 1) (sl ((cnE tI (rt tI x))&&true) (sl (Nat.beq t2.1 1) (sl (Ma9 []) (sl t3 none (some ((.v (.slice none 0 0)),[]))) none) (sl (Nat.beq t2.1 2) (sl (okL tV t2.2.ns5 (fun k=>i9 t2.2.eh1 (0+k))) (sl (Ma9 (lsL tV t2.2.ns5 (fun k=>i9 t2.2.eh1 (0+k)))) (sl t4 (sl (inB 0 t2.2.ns5) (sl (((Nat.blt 0 (len t2.2.eh1))&&(Nat.ble (0+3) (len (i9 t2.2.eh1 0))))&&(K7 [(CK.int .i64),(CK.int .i64),(CK.int .i64)] a0)) (sl (inB 1 t2.2.ns5) (sl ((Nat.blt 1 (len t2.2.eh1))&&(Nat.ble (0+3) (len (i9 t2.2.eh1 1)))) (sl (inB 2 t2.2.ns5) (sl ((Nat.blt 2 (len a3))&&(Nat.ble (0+3) (len (i9 a3 2)))) (sl (inB 3 t2.2.ns5) (sl ((Nat.blt 3 (len (setAt a3 2 (I7 (i9 a3 2) 0 [(i (toI (hdA a0))),a4,a1]))))&&(Nat.ble (0+3) (len (i9 (setAt a3 2 (I7 (i9 a3 2) 0 [(i (toI (hdA a0))),a4,a1])) 3)))) (some ((.sl 0 0 t2.2.ns5 0),[⟨36,3,(setAt (setAt a3 2 (I7 (i9 a3 2) 0 [(i (toI (hdA a0))),a4,a1])) 3 (I7 (i9 (setAt a3 2 (I7 (i9 a3 2) 0 [(i (toI (hdA a0))),a4,a1])) 3) 0 [(i (toI (hdA a0))),(i (toI (hdA (tlA a0)))),(i (W ((toI (hdA (tlA (tlA a0)))) - 1)))])),true,false,0⟩])) none) none) none) none) none) none) none) none) (some ((.sl 0 0 t2.2.ns5 0),[⟨36,3,t2.2.eh1,true,false,0⟩]))) none) none) none)) none) none) none)
noncomputable def ma7 (x:List Int):List V3:=I5 (one (r1L tV)) (Ja3 x)
noncomputable def Ja4 (x:List Int):Bool:=okO (one (r1L tV)) (Ja3 x)
noncomputable def Zb8:Sum:=da3 (V2 tI) (fun x=>.guard (Ja4 x) (.ret ((one (r1L tV)).enc (ma7 x),[])))
theorem Jc1:g7 prog G 46 Zb8:=wa2 (bd b46 Bc6) (one (r1L tV)) (o:=Ja3) fun x=>ya4 (.s .p (.s .p (.s .p (.s .p (.s (.s .p (.b (.u db2.ls))) .p))))) [db2.pr] (by kernel_rfl) (.cons oc7 .nil) (by kernel_rfl)
end Go.Ev.Ce
end
section
namespace Go.Ev.Ce
open Go Go.Ev Go.Ev.L Go.Proofs
set_option maxRecDepth 100000
noncomputable def ld5:List (Nat×Sum):=[(98,oa1),(97,gc4),(111,ec9),(35,Ac3),(21,ub1),(46,Zb8),(112,kc9)]
theorem Yc3:j7 prog G ld5:=⟨wa9,zc9,wc8,ld0,Eb5,Jc1,Yc2,trivial⟩
noncomputable def db3 (x:List Int):Option (b7×List b8):=let t1:=(k9 ⟨4,(rt tI x),0⟩);let t2:=(Ma8 ⟨6,(rt tI (rt tI x)),t1.c7⟩);let t3:=(k9 ⟨6,(rt tI t2.f8),t2.c7⟩);let t4:=(k9 ⟨6,(rt tI (rt tI t2.f8)),t3.c7⟩);let t5:=(k9 ⟨6,(rt tI (rt tI (rt tI t2.f8))),t4.c7⟩);let t6:=(pb1 (⟨t2.la3,t2.la4,t2.la5⟩:V3) (⟨(W ((W (t2.la3+1))+t3.is0)),(W ((W (t2.la4+1))+t4.is0)),(W ((W (t2.la5+1))+t5.is0))⟩:V3));let a0:=(if 7 < (↑(List.length x):Int) then 7 else (↑(List.length x):Int));let a1:=(l8 (fun k=>(tP).row (gL tP t6 k)) (List.range (List.length t6)));let a2:=(fun k=>(fun k=>(tI).row (gL tI x k)) (a0.toNat+k));let a3:=((List.length x) - a0.toNat);let t7:=(Ac2 (lsL tI a3 a2));let t8:=(Da2 [t7]);let t9:=(ma7 (lsL tI a3 a2));let t10:=(jb1 (rt tV t9));let t11:=(Da2 (slR tP (app (app [] a1) [[(i t7.n.x),(i t7.n.y),(i t7.n.z),(i t7.b)]]) 0 ((0+(len a1))+1)));(sl ((cnE tI x)&&true) (sl (Nat.beq t1.alt 1) (sl ((cnE tI (rt tI x))&&true) (sl (Nat.beq t2.alt 1) (sl ((cnE tI t2.f8)&&true) (sl (Nat.beq t3.alt 1) (sl ((cnE tI (rt tI t2.f8))&&true) (sl (Nat.beq t4.alt 1) (sl ((cnE tI (rt tI (rt tI t2.f8)))&&true) (sl (Nat.beq t5.alt 1) (sl (Ya7 (⟨t2.la3,t2.la4,t2.la5⟩:V3) (⟨(W ((W (t2.la3+1))+t3.is0)),(W ((W (t2.la4+1))+t4.is0)),(W ((W (t2.la5+1))+t5.is0))⟩:V3)) (sl (inB a0 ((List.length x)+1)) (sl (t1.is0==2) (sl (Nat.beq (len a1) 0) (sl (okL tI a3 a2) (sl (vb4 (lsL tI a3 a2)) (sl (sa8 [t7]) (sl t8 (some ((.sl 0 0 1 0),[⟨50,4,[[(i t7.n.x),(i t7.n.y),(i t7.n.z),(i t7.b)]],true,false,0⟩])) (sl (t1.is0==3) (sl (okL tI a3 a2) (sl (Ja4 (lsL tI a3 a2)) (sl (okE tV t9) (sl (Ea8 (rt tV t9)) (sl (t10.2==0) (some ((eL tP t10.1),[])) (some ((eL tP t6),[]))) none) none) none) none) (some ((eL tP t6),[])))) none) none) none) (sl (Nat.beq 0 0&&Nat.ble ((0+(len a1))*32) room) (sl (okL tI a3 a2) (sl (vb4 (lsL tI a3 a2)) (sl (Nat.beq (0+(len a1)) (len (app [] a1))&&Nat.ble (((0+(len a1))+1)*32) room) (sl (okS tP (app (app [] a1) [[(i t7.n.x),(i t7.n.y),(i t7.n.z),(i t7.b)]]) 0 ((0+(len a1))+1)) (sl (sa8 (slR tP (app (app [] a1) [[(i t7.n.x),(i t7.n.y),(i t7.n.z),(i t7.b)]]) 0 ((0+(len a1))+1))) (sl t11 (some ((.sl 0 0 ((0+(len a1))+1) 0),[⟨50,4,(app (app [] a1) [[(i t7.n.x),(i t7.n.y),(i t7.n.z),(i t7.b)]]),true,false,0⟩])) (sl (t1.is0==3) (sl (okL tI a3 a2) (sl (Ja4 (lsL tI a3 a2)) (sl (okE tV t9) (sl (Ea8 (rt tV t9)) (sl (t10.2==0) (some ((eL tP t10.1),[])) (some ((eL tP t6),[]))) none) none) none) none) (some ((eL tP t6),[])))) none) none) none) none) none) none)) (sl (t1.is0==3) (sl (okL tI a3 a2) (sl (Ja4 (lsL tI a3 a2)) (sl (okE tV t9) (sl (Ea8 (rt tV t9)) (sl (t10.2==0) (some ((eL tP t10.1),[])) (some ((eL tP t6),[]))) none) none) none) none) (some ((eL tP t6),[])))) none) none) none) none) none) none) none) none) none) none) none) none)
noncomputable def ca1 (x:List Int):List Pln:=I5 (one (r1L tP)) (db3 x)
noncomputable def Rb9 (x:List Int):Bool:=okO (one (r1L tP)) (db3 x)
noncomputable def Bc7:Sum:=da3 (V2 tI) (fun x=>.guard (Rb9 x) (.ret ((one (r1L tP)).enc (ca1 x),[])))
theorem ld6:g7 prog G 30 Bc7:=wa2 (bd b30 Yc3) (one (r1L tP)) (o:=db3) fun x=>r4 (by kernel_rfl)
noncomputable def Yc4:List (Nat×Sum):=[]
theorem Jc2:j7 prog G Yc4:=trivial
noncomputable def Ra9 (x:List Pln):Option (b7×List b8):=(sl (inB (if 8 < (↑(List.length x):Int) then 8 else (↑(List.length x):Int)) ((List.length x)+1)) (some ((.tree 4 ((if 8 < (↑(List.length x):Int) then 8 else (↑(List.length x):Int)).toNat - 0) (fun k=>(fun k=>(tP).row (gL tP x k)) (0+k))),[])) none)
noncomputable def jb2 (x:List Pln):List Pln:=I5 (one (r1L tP)) (Ra9 x)
noncomputable def Gb0 (x:List Pln):Bool:=okO (one (r1L tP)) (Ra9 x)
noncomputable def lc0:Sum:=da3 (V2 tP) (fun x=>.guard (Gb0 x) (.ret ((one (r1L tP)).enc (jb2 x),[])))
theorem Yc5:g7 prog G 82 lc0:=wa2 (bd b82 Jc2) (one (r1L tP)) (o:=Ra9) fun x=>r4 (by kernel_rfl)
noncomputable def jb3:List (Nat×Sum):=[]
theorem Sb0:j7 prog G jb3:=trivial
structure ca2 where
 A3:List Pt
 Dc8:List Pt
structure C6 where
 is5:Int
noncomputable def Lb3 (p:ca2) (s:C6):St:=⟨((eL tX p.A3)::((eL tX p.Dc8)::(ra 3 ((i s.is5)::(ra 20 []))))),[]⟩
noncomputable def V0 {α:Type} (k:C6→α) (e:Nat→α) (z:α) (p:ca2) (s:C6):α:=(sl (decide (s.is5 < (↑(List.length p.A3):Int))) (sl (inB s.is5 (List.length p.A3)) (sl (inB s.is5 (List.length p.Dc8)) (sl (!(((gL tX p.A3 s.is5.toNat).px==(gL tX p.Dc8 s.is5.toNat).px)&&(((gL tX p.A3 s.is5.toNat).py==(gL tX p.Dc8 s.is5.toNat).py)&&(((gL tX p.A3 s.is5.toNat).pz==(gL tX p.Dc8 s.is5.toNat).pz)&&(((gL tX p.A3 s.is5.toNat).pw==(gL tX p.Dc8 s.is5.toNat).pw)&&true))))) (e 1) (k ⟨(W (s.is5+1))⟩)) z) z) (e 2))
noncomputable def X9 (p:ca2) (s:C6):Stp C6:=V0 .next .exit .fail p s
noncomputable def Da4:Lo ca2 C6:=⟨En jb3,0,qe2,[1,1,0,1,4,4],[0,1,5],.p,[⟨((.s (.c 4 (nL tX)))::((.s (.c 4 (nL tX)))::(ru2 3 ((.s (.o (.int .i64)))::(ru2 20 []))))),[],fun a H=>(⟨(rL tX (slT a 0)),(rL tX (slT a 1))⟩,⟨(toI (slT a 5))⟩)⟩],X9,[(none,fun p s=>⟨[(b false)],[]⟩),(some 0,fun p s=>⟨((eL tX p.A3)::((eL tX p.Dc8)::(ra 3 ((i s.is5)::(ra 5 ((i s.is5)::((eL tX p.A3)::((i (↑(List.length p.A3):Int))::((b (decide (s.is5 < (↑(List.length p.A3):Int))))::(ra 11 [])))))))))),[]⟩)],Lb3⟩
theorem Lb4:Da4.Ok:=Lo.ok [] (by kernel_rfl) .nil rfl (.cons (fun a H=>by kernel_rfl) .nil) fun p s=>(.of @V0 (fun F _ _ _ _ _=>by unfold V0;(repeat' apply l7 (f:=F))<;>rfl) (by kernel_rfl))
noncomputable def ka8 (x:List Pt) (y:List Pt):Option (b7×List b8):=let t1:=(lp (X9 (⟨(rt tX x),(rt tX y)⟩:ca2)) (⟨0⟩:C6));(sl ((↑(List.length x):Int) != (↑(List.length y):Int)) (some ((b false),[])) (sl ((cnE tX x)&&((cnE tX y)&&true)) (sl (Nat.beq t1.1 1) (some ((b false),[])) (sl (Nat.beq t1.1 2) (some ((b true),[])) none)) none))
noncomputable def aa7 (x:List Pt) (y:List Pt):Bool:=I5 (one r1B) (ka8 x y)
noncomputable def aa8 (x:List Pt) (y:List Pt):Bool:=okO (one r1B) (ka8 x y)
noncomputable def Na0:Sum:=ja0 (V2 tX) (V2 tX) (fun x y=>.guard (aa8 x y) (.ret ((one r1B).enc (aa7 x y),[])))
theorem jb4:g7 prog G 17 Na0:=eb7 (bd b17 Sb0) (one r1B) (o:=ka8) fun x y=>ya4 (.s .p (.s .p (.s (.s .p (.b (.u Da4.ls))) .p))) [Da4.pr] (by kernel_rfl) (.cons Lb4 .nil) (by kernel_rfl)
noncomputable def lc1:List (Nat×Sum):=[]
theorem Yc6:j7 prog G lc1:=trivial
structure Ja5 where
 c8:List Pln
 Dc9:List Pln
structure Z5 where
 is5:Int
noncomputable def Jc3 (p:Ja5) (s:Z5):St:=⟨((eL tP p.c8)::((eL tP p.Dc9)::(ra 3 ((i s.is5)::(ra 20 []))))),[]⟩
noncomputable def ua9 {α:Type} (k:Z5→α) (e:Nat→α) (z:α) (p:Ja5) (s:Z5):α:=(sl (decide (s.is5 < (↑(List.length p.c8):Int))) (sl (inB s.is5 (List.length p.c8)) (sl (inB s.is5 (List.length p.Dc9)) (sl (!(((gL tP p.c8 s.is5.toNat).n.x==(gL tP p.Dc9 s.is5.toNat).n.x)&&(((gL tP p.c8 s.is5.toNat).n.y==(gL tP p.Dc9 s.is5.toNat).n.y)&&(((gL tP p.c8 s.is5.toNat).n.z==(gL tP p.Dc9 s.is5.toNat).n.z)&&(((gL tP p.c8 s.is5.toNat).b==(gL tP p.Dc9 s.is5.toNat).b)&&true))))) (e 1) (k ⟨(W (s.is5+1))⟩)) z) z) (e 2))
noncomputable def Ba1 (p:Ja5) (s:Z5):Stp Z5:=ua9 .next .exit .fail p s
noncomputable def wb2:Lo Ja5 Z5:=⟨En lc1,0,qe5,[1,1,0,1,4,4],[0,1,5],.p,[⟨((.s (.c 4 (nL tP)))::((.s (.c 4 (nL tP)))::(ru2 3 ((.s (.o (.int .i64)))::(ru2 20 []))))),[],fun a H=>(⟨(rL tP (slT a 0)),(rL tP (slT a 1))⟩,⟨(toI (slT a 5))⟩)⟩],Ba1,[(none,fun p s=>⟨[(b false)],[]⟩),(some 0,fun p s=>⟨((eL tP p.c8)::((eL tP p.Dc9)::(ra 3 ((i s.is5)::(ra 5 ((i s.is5)::((eL tP p.c8)::((i (↑(List.length p.c8):Int))::((b (decide (s.is5 < (↑(List.length p.c8):Int))))::(ra 11 [])))))))))),[]⟩)],Jc3⟩
theorem Jc4:wb2.Ok:=Lo.ok [] (by kernel_rfl) .nil rfl (.cons (fun a H=>by kernel_rfl) .nil) fun p s=>(.of @ua9 (fun F _ _ _ _ _=>by unfold ua9;(repeat' apply l7 (f:=F))<;>rfl) (by kernel_rfl))
noncomputable def db4 (x:List Pln) (y:List Pln):Option (b7×List b8):=let t1:=(lp (Ba1 (⟨(rt tP x),(rt tP y)⟩:Ja5)) (⟨0⟩:Z5));(sl ((↑(List.length x):Int) != (↑(List.length y):Int)) (some ((b false),[])) (sl ((cnE tP x)&&((cnE tP y)&&true)) (sl (Nat.beq t1.1 1) (some ((b false),[])) (sl (Nat.beq t1.1 2) (some ((b true),[])) none)) none))
noncomputable def wb3 (x:List Pln) (y:List Pln):Bool:=I5 (one r1B) (db4 x y)
noncomputable def wb4 (x:List Pln) (y:List Pln):Bool:=okO (one r1B) (db4 x y)
noncomputable def Bc8:Sum:=ja0 (V2 tP) (V2 tP) (fun x y=>.guard (wb4 x y) (.ret ((one r1B).enc (wb3 x y),[])))
theorem ld7:g7 prog G 26 Bc8:=eb7 (bd b26 Yc6) (one r1B) (o:=db4) fun x y=>ya4 (.s .p (.s .p (.s (.s .p (.b (.u wb2.ls))) .p))) [wb2.pr] (by kernel_rfl) (.cons Jc4 .nil) (by kernel_rfl)
noncomputable def Bc9:List (Nat×Sum):=[(47,Ya8),(118,Pc3),(119,Rb6)]
theorem ld8:j7 prog G Bc9:=⟨bb7,ud4,kc4,trivial⟩
structure Sa0 where
 is6:Int
structure ma0 where
 ns5:Nat
 eh0:List (List b7)
noncomputable def Yc7 (p:Sa0) (s:ma0):St:=⟨(ra 5 ((.sl 0 0 s.ns5 0)::((i p.is6)::(ra 91 [])))),[⟨50,4,s.eh0,true,false,0⟩]⟩
noncomputable def Oa1 {α:Type} (k:ma0→α) (e:Nat→α) (z:α) (p:Sa0) (s:ma0):α:=(sl (decide ((↑s.ns5:Int)≤48)) (sl (inB p.is6 s.ns5) (sl (ldR tP s.eh0 (0+p.is6.toNat)) (sl (Nat.beq s.ns5 (len s.eh0)&&Nat.ble ((s.ns5+1)*32) room) (k ⟨(s.ns5+1),(app s.eh0 [[(i (rdR tP s.eh0 (0+p.is6.toNat)).n.x),(i (rdR tP s.eh0 (0+p.is6.toNat)).n.y),(i (rdR tP s.eh0 (0+p.is6.toNat)).n.z),(i (rdR tP s.eh0 (0+p.is6.toNat)).b)]])⟩) z) z) z) (e 1))
noncomputable def Ja6 (p:Sa0) (s:ma0):Stp ma0:=Oa1 .next .exit .fail p s
noncomputable def Gb1:Lo Sa0 ma0:=⟨En Bc9,0,qe6,[1,1,1,1,0,1,4,1,3,1,3,1,3,1,3,1,3,1,2,4,4],[5,6],.p,[⟨(ru2 5 ((.s (.o (.sl 0 0 (some 0) none)))::((.s (.o (.int .i64)))::(ru2 91 [])))),[⟨50,4,true,none⟩],fun a H=>(⟨(toI (slT a 6))⟩,⟨(slN (slT a 5)),(elT H 0)⟩)⟩],Ja6,[(some 1,fun p s=>⟨(ra 5 ((.sl 0 0 s.ns5 0)::((i p.is6)::(ra 80 ((.sl 0 0 s.ns5 0)::((i (↑s.ns5:Int))::((b (decide ((↑s.ns5:Int)≤48)))::(ra 8 [])))))))),[⟨50,4,s.eh0,true,false,0⟩]⟩)],Yc7⟩
theorem Yc8:Gb1.Ok:=Lo.ok [] (by kernel_rfl) .nil rfl (.cons (fun a H=>by kernel_rfl) .nil) fun p s=>(.of @Oa1 (fun F _ _ _ _ _=>by unfold Oa1;(repeat' apply l7 (f:=F))<;>rfl) (by kernel_rfl))
noncomputable def qb7 (x:List Pln) (y:V3):Option (b7×List b8):=let t2:=(ja5 y.x 6);let t5:=(ja5 y.z 9);let a0:=(l8 (fun k=>(tP).row (gL tP x k)) (List.range (List.length x)));let t1:=(ja5 y.y (↑(0+(len a0)):Int));let t6:=(lp (Ja6 (⟨t1⟩:Sa0)) (⟨(0+(len a0)),(app [] a0)⟩:ma0));let a1:=(C7 (f0 (app [] a0) (0+(W (t1+1)).toNat)) ((0+(len a0)) - (W (t1+1)).toNat));let a2:=(i9 (app [] a0) (0+t1.toNat));let a3:=(rdR tP (app [] a0) (0+t1.toNat));let t3:=(Pc2 a3 (⟨y.z,y.y,y.x⟩:V3));let t4:=(vb5 a3);let a4:=(Nat.blt (0+t1.toNat) (len (app [] a0)));(sl (Nat.beq (len a0) 0) (some ((.sl 0 0 1 0),[⟨50,4,[[(i 0),(i 0),(i 0),(i 0)]],true,false,0⟩])) (sl (Nat.beq 0 0&&Nat.ble ((0+(len a0))*32) room) (sl ((↑(0+(len a0)):Int)==0) (some ((.sl 0 0 1 0),[⟨50,4,[[(i 0),(i 0),(i 0),(i 0)]],true,false,0⟩])) (sl (ea1 y.y (↑(0+(len a0)):Int)) (sl (ea1 y.x 6) (sl (t2==0) (sl (inB t1 (0+(len a0))) (sl (ldR tP (app [] a0) (0+t1.toNat)) (sl (gc9 a3 (⟨y.z,y.y,y.x⟩:V3)) (sl (inB t1 (0+(len a0))) (sl (a4&&(Nat.ble (0+4) (len a2))) (some ((.sl 0 0 (0+(len a0)) 0),[⟨50,4,(setAt (app [] a0) (0+t1.toNat) (I7 a2 0 [(i t3.n.x),(i t3.n.y),(i t3.n.z),(i t3.b)])),true,false,0⟩])) none) none) none) none) none) (sl (t2==1) (sl (inB t1 ((0+(len a0))+1)) (sl (inB (W (t1+1)) ((0+(len a0))+1)) (sl (Nat.ble ((t1.toNat - 0)+(len a1)) (len (app [] a0))) (some ((.sl 0 0 ((t1.toNat - 0)+(len a1)) 0),[⟨50,4,(app (C7 (app [] a0) (t1.toNat - 0)) (app a1 (f0 (app [] a0) ((t1.toNat - 0)+(len a1))))),true,false,0⟩])) none) none) none) (sl (t2==2) (sl (inB t1 (0+(len a0))) (sl (ldR tP (app [] a0) (0+t1.toNat)) (sl (inB t1 (0+(len a0))) (sl (a4&&(Nat.ble (0+4) (len a2))) (some ((.sl 0 0 (0+(len a0)) 0),[⟨50,4,(setAt (app [] a0) (0+t1.toNat) (I7 a2 0 [(i t4.n.x),(i t4.n.y),(i t4.n.z),(i t4.b)])),true,false,0⟩])) none) none) none) none) (sl (t2==3) (sl (inB t1 (0+(len a0))) (sl (ldR tP (app [] a0) (0+t1.toNat)) (sl (Nat.beq (0+(len a0)) (len (app [] a0))&&Nat.ble (((0+(len a0))+1)*32) room) (some ((.sl 0 0 ((0+(len a0))+1) 0),[⟨50,4,(app (app [] a0) [[(i a3.n.x),(i a3.n.y),(i a3.n.z),(i a3.b)]]),true,false,0⟩])) none) none) none) (sl (t2==4) (sl (inB t1 (0+(len a0))) (sl ((a4&&(Nat.ble (3+1) (len a2)))&&(K7 [(CK.int .i64)] (f0 a2 3))) (sl (ea1 y.z 9) (sl (inB t1 (0+(len a0))) (sl (a4&&(Nat.ble (3+1) (len a2))) (some ((.sl 0 0 (0+(len a0)) 0),[⟨50,4,(setAt (app [] a0) (0+t1.toNat) (I7 a2 3 [(i (W ((W ((toI (hdA (f0 a2 3)))+t5)) - 4)))])),true,false,0⟩])) none) none) none) none) none) (sl (t2==5) (sl (Nat.beq t6.1 1) (some ((.sl 0 0 t6.2.ns5 0),[⟨50,4,t6.2.eh0,true,false,0⟩])) none) (some ((.sl 0 0 (0+(len a0)) 0),[⟨50,4,(app [] a0),true,false,0⟩])))))))) none) none)) none))
noncomputable def xa1 (x:List Pln) (y:V3):List Pln:=I5 (one (r1L tP)) (qb7 x y)
noncomputable def qb8 (x:List Pln) (y:V3):Bool:=okO (one (r1L tP)) (qb7 x y)
noncomputable def Pc5:Sum:=ja0 (V2 tP) (R2 tV) (fun x y=>.guard (qb8 x y) (.ret ((one (r1L tP)).enc (xa1 x y),[])))
theorem ud6:g7 prog G 39 Pc5:=eb7 (bd b39 ld8) (one (r1L tP)) (o:=qb7) fun x y=>ya4 (.s .p (.s .p (.s .p (.s .p (.s (.s .p (.b (.s .p (.c .p (.s .p (.c .p (.s .p (.c .p (.s .p (.c .p (.s .p (.c .p (.s .p (.c (.b (.u Gb1.ls)) .p)))))))))))))) .p))))) [Gb1.pr] (by kernel_rfl) (.cons Yc8 .nil) (by kernel_rfl)
noncomputable def Cc0:List (Nat×Sum):=[(30,Bc7),(39,Pc5),(82,lc0)]
theorem oc8:j7 prog G Cc0:=⟨ld6,ud6,Yc5,trivial⟩
noncomputable def Ba2 (x:List Int) (y:Q2) (z:List Pln):Option (b7×List b8):=let t1:=(ca1 (rt tI x));let t2:=(xa1 (rt tP t1) y.a);let t3:=(xa1 (rt tP t2) y.b);let t4:=(jb2 (rt tP z));(sl (okE tI x) (sl (Rb9 (rt tI x)) (sl (okE tP t1) (sl (qb8 (rt tP t1) y.a) (sl (okE tP t1) (sl (qb8 (rt tP t1) y.a) (sl (okE tP t2) (sl (qb8 (rt tP t2) y.b) (sl (okE tP z) (sl (Gb0 (rt tP z)) (some ((.sl 0 0 4 0),[⟨25,1,[[(eL tP t1)],[(eL tP t2)],[(eL tP t3)],[(eL tP t4)]],true,false,0⟩])) none) none) none) none) none) none) none) none) none) none)
noncomputable def nb2 (x:List Int) (y:Q2) (z:List Pln):List (List Pln):=I5 (one (r1L (tLs tP))) (Ba2 x y z)
noncomputable def nb3 (x:List Int) (y:Q2) (z:List Pln):Bool:=okO (one (r1L (tLs tP))) (Ba2 x y z)
noncomputable def Nb5:Sum:=mc0 (V2 tI) (R2 tQ) (V2 tP) (fun x y z=>.guard (nb3 x y z) (.ret ((one (r1L (tLs tP))).enc (nb2 x y z),[])))
theorem Cc1:g7 prog G 14 Nb5:=Vd2 (bd b14 oc8) (one (r1L (tLs tP))) (o:=Ba2) fun x y z=>r4 (by kernel_rfl)
end Go.Ev.Ce
end
namespace Go.Ev.Ce
open Go Go.Ev Go.Ev.L Go.Proofs
theorem ld9 {Q:Pt→Prop} (r:List Pln) (p q:Pln):∀ (l:List Pln) (out:List Pt),(∀ s∈l,(mpt p q s).2=true→inn r (mpt p q s).1=true→Q (mpt p q s).1)→(∀ x∈out,Q x)→∀ x∈mb4 r p q l out,Q x
 | [],out,_,h=>h
 | s::l,out,hs,h=>ld9 r p q l (Ra0 r p q out s) (fun t ht=>hs t (List.mem_cons_of_mem _ ht)) fun x hx=>by
  unfold Ra0 at hx
  split at hx
  ·rename_i hc
   rw[Bool.and_eq_true,Bool.and_eq_true] at hc
   rcases List.mem_append.1 hx with hx | hx
   ·exact h x hx
   ·rw[List.mem_singleton] at hx
    subst hx
    exact hs s List.mem_cons_self hc.1 hc.2.2
  ·exact h x hx
theorem md0 {Q:Pt→Prop} (r:List Pln) (p:Pln):∀ (l:List Pln) (out:List Pt),(∀ q∈l,∀ s∈l,(mpt p q s).2=true→inn r (mpt p q s).1=true→Q (mpt p q s).1)→(∀ x∈out,Q x)→∀ x∈Xa5 r p l out,Q x
 | [],out,_,h=>h
 | q::l,out,hs,h=>md0 r p l _ (fun a ha t ht=>hs a (List.mem_cons_of_mem _ ha) t (List.mem_cons_of_mem _ ht)) (ld9 r p q l out (fun t ht=>hs q List.mem_cons_self t (List.mem_cons_of_mem _ ht)) h)
theorem md1 {Q:Pt→Prop} (r:List Pln):∀ (l:List Pln) (out:List Pt),(∀ p∈l,∀ q∈l,∀ s∈l,(mpt p q s).2=true→inn r (mpt p q s).1=true→Q (mpt p q s).1)→(∀ x∈out,Q x)→∀ x∈Hc8 r l out,Q x
 | [],out,_,h=>h
 | p::l,out,hs,h=>md1 r l _ (fun a ha c hc t ht=>hs a (List.mem_cons_of_mem _ ha) c (List.mem_cons_of_mem _ hc) t (List.mem_cons_of_mem _ ht)) (md0 r p l out (fun c hc t ht=>hs p List.mem_cons_self c (List.mem_cons_of_mem _ hc) t (List.mem_cons_of_mem _ ht)) h)
theorem Zd4 {Q:Pt→Prop} {r:List Pln} (hs:∀ p∈r,∀ q∈r,∀ s∈r,(mpt p q s).2=true→inn r (mpt p q s).1=true→Q (mpt p q s).1):∀ x∈cor r,Q x :=
 md1 r r [] hs fun x hx=>by cases hx
structure Okx (x:Pt):Prop where
 w1:0 < x.pw
 w2:x.pw≤600000000000
 c1:Sm 300000000000000 x.px
 c2:Sm 300000000000000 x.py
 c3:Sm 300000000000000 x.pz
theorem Zd5 {r:List Pln} (hb:Bds r):∀ x∈cor r,Okx x:=Zd4 fun p hp q hq s hs h _=>by
 obtain⟨h1,h2,h3,h4,h5⟩:=ke4 (hb p hp) (hb q hq) (hb s hs) h
 exact⟨h1,h5,h2,h3,h4⟩
theorem zd7 {c:List Pln}:∀ x∈pts c,Okx x:=by
 unfold pts
 cases h:chk c==0 with
 | false=>intro x hx;cases hx
 | true=>exact Zd5 (vb3 h).1
theorem Zb9 (c:List Pln):(pts c).length≤8000000:=by
 unfold pts
 cases h:chk c==0 with
 | false=>exact Nat.zero_le _
 | true=>exact Wc9 _ (vb3 h).1 (vb3 h).2
theorem md2 {x y:Int} (hy:0 < y):Int.tmod x y+y*Int.tdiv x y=x∧-y < Int.tmod x y∧Int.tmod x y < y:=by
 refine⟨Int.tmod_add_mul_tdiv x y,?_,Int.tmod_lt_of_pos x hy⟩
 have:=Int.lt_tmod_of_pos x hy
 omega
theorem zd8 {x y q r:Int} (hy:0 < y) (h:r+y*q=x) (h1:0≤r) (h2:r < y):x / y=q:=((Int.ediv_emod_unique hy).2 ⟨h,h1,h2⟩).1
theorem Zd6 {x y:Int} (hx:Sm 300000000000000 x) (hy:0 < y):Sm 300000000000000 (Int.tdiv x y):=F8 hx hy
theorem md3 {x y:Int} (hx:Sm 300000000000000 x) (hy:0 < y):Ia4 x y=some (i (x / y),[]):=by
 have hz:(y==0)=false:=by rw[beq_eq_false_iff_ne];omega
 obtain⟨h1,h2,h3⟩:=md2 (x:=x) hy
 have hb:=Zd6 hx hy
 unfold Ia4
 rw[bf hz,bf hz,ua0 (hb.mono (by omega))]
 by_cases h:Int.tmod x y < 0
 ·rw[btD h,zd8 hy (q:=Int.tdiv x y - 1) (r:=Int.tmod x y+y) (by rw[Int.mul_sub];omega) (by omega) (by omega),ya3 (by have:=hb.1;omega) (by have:=hb.2;omega)]
 ·rw[bfD h,zd8 hy h1 (by omega) h3]
theorem Jb9 {x y:Int} (hx:Sm 300000000000000 x) (hy:0 < y):Z3 x y=x / y:=by unfold Z3;rw[md3 hx hy];rfl
theorem Kb0 {x y:Int} (hx:Sm 300000000000000 x) (hy:0 < y):Z4 x y=true:=by unfold Z4;rw[md3 hx hy];rfl
theorem Pd3 (x:Int) {y:Int} (hy:0 < y) (hy2:y≤4000000000000000000):pb5 x y=some (i (x % y),[]):=by
 have hz:(y==0)=false:=by rw[beq_eq_false_iff_ne];omega
 obtain⟨h1,h2,h3⟩:=md2 (x:=x) hy
 unfold pb5
 rw[bfD (by omega),bf hz,bf hz,ya3 (by omega) (by omega),Int.tmod_eq_emod_of_nonneg (by omega)]
 congr 3
 rw[Int.add_emod_right]
 conv=>rhs;rw[← h1]
 rw[Int.add_mul_emod_self_left]
theorem md4 (x:Int) {y:Int} (hy:0 < y) (hy2:y≤4000000000000000000):ja5 x y=x % y:=by unfold ja5;rw[Pd3 x hy hy2];rfl
theorem lc2 (x:Int) {y:Int} (hy:0 < y) (hy2:y≤4000000000000000000):ea1 x y=true:=by unfold ea1;rw[Pd3 x hy hy2];rfl
theorem Pc6 {x y:Int} (hx:Sm 300000000000000 x) (hy:0 < y) (hy2:y≤600000000000):Pa4 x y=some (i (x / y),[]):=by
 have hz:(y==0)=false:=by rw[beq_eq_false_iff_ne];omega
 have hm1:=Int.emod_nonneg x (show y≠0 by omega)
 have hm2:=Int.emod_lt_of_pos x hy
 have hd:=Int.emod_add_mul_ediv x y
 obtain⟨hx1,hx2⟩:=hx
 unfold Pa4
 simp only[md4 x hy (by omega),lc2 x hy (by omega)]
 rw[p5,bf hz,ya3 (n:=x - x % y) (by omega) (by omega),show x - x % y=y*(x / y) by omega,Int.mul_tdiv_cancel_left _ (by omega)]
 rw[ya3]
 ·have h1:-300000000000000≤x / y:=by rw[Int.le_ediv_iff_mul_le hy];have:=Int.mul_le_mul_of_nonneg_left (show (1:Int)≤y by omega) (show (0:Int)≤300000000000000 by omega);omega
  omega
 ·have h2 : x / y ≤ 300000000000000 := by
   have:x / y < 300000000000001:=by rw[Int.ediv_lt_iff_lt_mul hy];have:=Int.mul_le_mul_of_nonneg_left (show (1:Int)≤y by omega) (show (0:Int)≤300000000000001 by omega);omega
   omega
  omega
theorem qb9 {x y:Int} (hx:Sm 300000000000000 x) (hy:0 < y) (hy2:y≤600000000000):ea8 x y=x / y:=by unfold ea8;rw[Pc6 hx hy hy2];rfl
theorem rb0 {x y:Int} (hx:Sm 300000000000000 x) (hy:0 < y) (hy2:y≤600000000000):ea9 x y=true:=by unfold ea9;rw[Pc6 hx hy hy2];rfl
noncomputable def Wa0 (s:V3×V3) (x:Pt):V3×V3 :=
 (⟨if x.px / x.pw < s.1.x then x.px / x.pw else s.1.x,if x.py / x.pw < s.1.y then x.py / x.pw else s.1.y,if x.pz / x.pw < s.1.z then x.pz / x.pw else s.1.z⟩,
  ⟨if W (0 - -x.px / x.pw) > s.2.x then W (0 - -x.px / x.pw) else s.2.x,if W (0 - -x.py / x.pw) > s.2.y then W (0 - -x.py / x.pw) else s.2.y,if W (0 - -x.pz / x.pw) > s.2.z then W (0 - -x.pz / x.pw) else s.2.z⟩)
noncomputable def bnd (c:List Pln):V3×V3×Bool :=
 if ful c then (((pts c).foldl Wa0 (⟨24,24,24⟩,⟨-24,-24,-24⟩)).1,((pts c).foldl Wa0 (⟨24,24,24⟩,⟨-24,-24,-24⟩)).2,true) else (⟨0,0,0⟩,⟨0,0,0⟩,false)
theorem Pc7 {x:Int} (h:Sm 300000000000000 x):W (0 - x)=-x:=by obtain⟨h1,h2⟩:=h;rw[ya3 (by omega) (by omega)];omega
theorem Sm.neg {n x:Int} (h:Sm n x):Sm n (-x):=⟨by have:=h.2;omega,by have:=h.1;omega⟩
noncomputable def le9 (r:V3×V3×Bool):b7:=.tup [.agg (tV.row r.1),.agg (tV.row r.2.1),b r.2.2]
theorem ud7 (X:List Pt) (hX:X.length≤8000000) (hok:∀ x∈X,Okx x) (s:V3×V3):∃ m,lp (ea2 ⟨X,(X.length:Int)⟩) ⟨0,s.1.x,s.1.y,s.1.z,s.2.x,s.2.y,s.2.z⟩=(1,⟨m,(X.foldl Wa0 s).1.x,(X.foldl Wa0 s).1.y,(X.foldl Wa0 s).1.z,(X.foldl Wa0 s).2.x,(X.foldl Wa0 s).2.y,(X.foldl Wa0 s).2.z⟩):=by
 have h:=Ib8 (step:=ea2 ⟨X,(X.length:Int)⟩) (mk:=fun j (s:V3×V3)=>(⟨(j:Int),s.1.x,s.1.y,s.1.z,s.2.x,s.2.y,s.2.z⟩:U4)) (f:=Wa0) (fin:=1) tX X (fun _ _=>True) (by omega)
  (fun j s hj _=>⟨by
   have hx:=hok _ (dc1 tX hj)
   simp only[ea2,ka6,Int.toNat_natCast,Pc7 hx.c1,Pc7 hx.c2,Pc7 hx.c3,Jb9 hx.c1 hx.w1,Jb9 hx.c2 hx.w1,Jb9 hx.c3 hx.w1,Kb0 hx.c1 hx.w1,Kb0 hx.c2 hx.w1,Kb0 hx.c3 hx.w1,
    Jb9 hx.c1.neg hx.w1,Jb9 hx.c2.neg hx.w1,Jb9 hx.c3.neg hx.w1,Kb0 hx.c1.neg hx.w1,Kb0 hx.c2.neg hx.w1,Kb0 hx.c3.neg hx.w1,p4 hj (by omega)]
   rw[btD (o2 hj),bt (f7 hj)]
   rfl,trivial⟩)
  (fun s _=>by simp only[ea2,ka6];rw[bfD (U5 (Nat.lt_irrefl _))]) 0 (Nat.zero_le _) s trivial
 have h:=h.1
 rw[List.drop_zero] at h
 exact⟨_,h⟩
theorem md5 (X:List Pt) (hX:X.length≤8000000) (hok:∀ x∈X,Okx x) (s:V3×V3):∃ m,lp (ja6 ⟨X⟩) ⟨0,s.1.x,s.1.y,s.1.z,s.2.x,s.2.y,s.2.z⟩=(1,⟨m,(X.foldl Wa0 s).1.x,(X.foldl Wa0 s).1.y,(X.foldl Wa0 s).1.z,(X.foldl Wa0 s).2.x,(X.foldl Wa0 s).2.y,(X.foldl Wa0 s).2.z⟩):=by
 have h:=Ib8 (step:=ja6 ⟨X⟩) (mk:=fun j (s:V3×V3)=>(⟨(j:Int),s.1.x,s.1.y,s.1.z,s.2.x,s.2.y,s.2.z⟩:aa4)) (f:=Wa0) (fin:=1) tX X (fun _ _=>True) (by omega)
  (fun j s hj _=>⟨by
   have hx:=hok _ (dc1 tX hj)
   simp only[ja6,na3,Int.toNat_natCast,Pc7 hx.c1,Pc7 hx.c2,Pc7 hx.c3,qb9 hx.c1 hx.w1 hx.w2,qb9 hx.c2 hx.w1 hx.w2,qb9 hx.c3 hx.w1 hx.w2,rb0 hx.c1 hx.w1 hx.w2,rb0 hx.c2 hx.w1 hx.w2,rb0 hx.c3 hx.w1 hx.w2,
    qb9 hx.c1.neg hx.w1 hx.w2,qb9 hx.c2.neg hx.w1 hx.w2,qb9 hx.c3.neg hx.w1 hx.w2,rb0 hx.c1.neg hx.w1 hx.w2,rb0 hx.c2.neg hx.w1 hx.w2,rb0 hx.c3.neg hx.w1 hx.w2,p4 hj (by omega),f7 hj]
   rw[btD (o2 hj)]
   rfl,trivial⟩)
  (fun s _=>by simp only[ja6,na3];rw[bfD (U5 (Nat.lt_irrefl _))]) 0 (Nat.zero_le _) s trivial
 have h:=h.1
 rw[List.drop_zero] at h
 exact⟨_,h⟩
theorem md6 {c:List Pln} (hc:c.length≤1000000000):Ia5 c=some (le9 (bnd c),[]):=by
 have ht:N9 ⟨24,24,24⟩ (-1)=⟨-24,-24,-24⟩:=by
  unfold N9
  rw[show W (24*-1)=-24 from by rw[Dd9];rfl]
 obtain⟨m,hm⟩:=ud7 (pts c) (Zb9 c) zd7 (⟨24,24,24⟩,⟨-24,-24,-24⟩)
 unfold Ia5 bnd
 simp only[m8,K6,o0,gc1 hc,gc2 hc,qb3 hc,qb4 hc,ht,hm]
 cases ful c<;>rfl
theorem Pc8 {c:List Pln} (hc:c.length≤1000000000):Pa5 c=some (le9 (bnd c),[]):=by
 obtain⟨m,hm⟩:=md5 (pts c) (Zb9 c) zd7 (⟨24,24,24⟩,⟨-24,-24,-24⟩)
 unfold Pa5 bnd
 simp only[m8,K6,o0,zd6 hc,Xc3 hc,Pc0 hc,Pc1 hc,hm]
 cases ful c<;>rfl
theorem qc7 (r:V3×V3×Bool):(Vb3 r1V r1V r1B).rd (le9 r,[])=some r:=rfl
theorem zd9 {c:List Pln} (hc:c.length≤1000000000):Ia6 c=bnd c:=by unfold Ia6;rw[md6 hc];exact pa6 _ (qc7 _)
theorem Ad0 {c:List Pln} (hc:c.length≤1000000000):Ia7 c=true:=by unfold Ia7;rw[md6 hc];exact Aa4 _ (qc7 _)
theorem Pd4 {c:List Pln} (hc:c.length≤1000000000):ib8 c=bnd c:=by unfold ib8;rw[Pc8 hc];exact pa6 _ (qc7 _)
theorem Pd5 {c:List Pln} (hc:c.length≤1000000000):ib9 c=true:=by unfold ib9;rw[Pc8 hc];exact Aa4 _ (qc7 _)
theorem Pd6 (x:Pt):(x.px==x.px&&(x.py==x.py&&(x.pz==x.pz&&(x.pw==x.pw&&true))))=true:=(Xd6 x x).2 rfl
theorem Pd7 (x:Pln):(x.n.x==x.n.x&&(x.n.y==x.n.y&&(x.n.z==x.n.z&&(x.b==x.b&&true))))=true:=by simp
theorem Nb6 (l:List Pt) (hl:l.length≤1000000000):ka8 l l=some (b true,[]):=by
 have h:=kb5 (step:=X9 ⟨l,l⟩) (mk:=fun j=>(⟨(j:Int)⟩:C6)) (c:=fun _=>false) (u:=1) (fin:=2) tX l hl
  (fun j hj=>by
   simp only[X9,V0,Int.toNat_natCast,p4 hj (by omega),Pd6]
   rw[btD (o2 hj),bt (f7 hj),bt (f7 hj)]
   rfl)
  (by simp only[X9,V0];rw[bfD (U5 (Nat.lt_irrefl _))]) 0 (Nat.zero_le _)
 rw[List.drop_zero,show (l.any fun _=>false)=false by simp] at h
 unfold ka8
 simp only[m8,o0]
 rw[show (⟨0⟩:C6)=⟨((0:Nat):Int)⟩ from rfl,h,bf (by simp)]
 rfl
theorem wb5 (l:List Pt) (hl:l.length≤1000000000):aa7 l l=true:=by unfold aa7;rw[Nb6 l hl];rfl
theorem wb6 (l:List Pt) (hl:l.length≤1000000000):aa8 l l=true:=by unfold aa8;rw[Nb6 l hl];rfl
theorem Ad1 (l:List Pln) (hl:l.length≤1000000000):db4 l l=some (b true,[]):=by
 have h:=kb5 (step:=Ba1 ⟨l,l⟩) (mk:=fun j=>(⟨(j:Int)⟩:Z5)) (c:=fun _=>false) (u:=1) (fin:=2) tP l hl
  (fun j hj=>by
   simp only[Ba1,ua9,Int.toNat_natCast,p4 hj (by omega),Pd7]
   rw[btD (o2 hj),bt (f7 hj),bt (f7 hj)]
   rfl)
  (by simp only[Ba1,ua9];rw[bfD (U5 (Nat.lt_irrefl _))]) 0 (Nat.zero_le _)
 rw[List.drop_zero,show (l.any fun _=>false)=false by simp] at h
 unfold db4
 simp only[m8,o0]
 rw[show (⟨0⟩:Z5)=⟨((0:Nat):Int)⟩ from rfl,h,bf (by simp)]
 rfl
theorem me0 (l:List Pln) (hl:l.length≤1000000000):wb3 l l=true:=by unfold wb3;rw[Ad1 l hl];rfl
theorem me1 (l:List Pln) (hl:l.length≤1000000000):wb4 l l=true:=by unfold wb4;rw[Ad1 l hl];rfl
end Go.Ev.Ce
namespace Go.Ev.Ce
open Go Go.Ev Go.Ev.L Go.Proofs
def Nx {σ:Type} (x:Stp σ) (E:Nat→Prop) (N:σ→Prop):Prop:=(∃ t,x=.exit t∧E t)∨∃ s,x=.next s∧N s
theorem Nx.sl {σ:Type} {c:Bool} {t e:Stp σ} {E:Nat→Prop} {N:σ→Prop} (h1:c=true→Nx t E N) (h2:c=false→Nx e E N):Nx (sl c t e) E N:=by cases c;exact h2 rfl;exact h1 rfl
theorem Nx.ex {σ:Type} {t:Nat} {E:Nat→Prop} {N:σ→Prop} (h:E t):Nx (.exit t) E N:=.inl ⟨t,rfl,h⟩
theorem Nx.nx {σ:Type} {s:σ} {E:Nat→Prop} {N:σ→Prop} (h:N s):Nx (.next s) E N:=.inr ⟨s,rfl,h⟩
theorem Ca4 {σ τ : Type} {step : σ → Stp σ} {mk : Nat → τ → σ} (n : Nat) (I : Nat → τ → Prop) (E : Nat → σ → Prop) (hn : n ≤ 1000000000)
  (h:∀ j a,j < n→I j a→Nx (step (mk j a)) (fun t=>E t (mk j a)) (fun s=>∃ a',s=mk (j+1) a'∧I (j+1) a'))
  (hf:∀ j a,n≤j→I j a→∃ t,step (mk j a)=.exit t∧E t (mk j a)) (j0:Nat) (a:τ) (hi:I j0 a):∃ t s,lp step (mk j0 a)=(t,s)∧E t s:=by
 have key:=Cb8 (step:=step) (I:=fun m s=>∃ j a,m=n - j∧s=mk j a∧I j a) (Q:=E) (fun m s ⟨j,a,hm,hs,ha⟩=>by
  subst hs
  by_cases hlt:j < n
  ·rcases h j a hlt ha with h1 | ⟨s',h1,a',h2,h3⟩
   ·exact .inl h1
   ·subst h2
    exact .inr ⟨_,n - (j+1),by omega,h1,j+1,a',rfl,rfl,h3⟩
  ·exact .inl (hf j a (by omega) ha)) (n - j0) (mk j0 a) (by omega) ⟨j0,a,rfl,rfl,hi⟩
 exact⟨_,_,rfl,key⟩
def Rd {ρ:Type} (R:RR ρ) (o:Option (b7×List b8)) (P:ρ→Prop):Prop:=∃ x r,o=some x∧R.rd x=some r∧P r
theorem Rd.p {ρ:Type} {R:RR ρ} {o:Option (b7×List b8)} {P:ρ→Prop} (h:Rd R o P):P (I5 R o):=by
 obtain⟨x,r,h1,h2,h3⟩:=h
 rw[h1,pa6 R h2]
 exact h3
theorem Rd.g {ρ:Type} {R:RR ρ} {o:Option (b7×List b8)} {P:ρ→Prop} (h:Rd R o P):okO R o=true:=by
 obtain⟨x,r,h1,h2,h3⟩:=h
 rw[h1]
 exact Aa4 R h2
theorem Rd.sl {ρ:Type} {R:RR ρ} {c:Bool} {t e:Option (b7×List b8)} {P:ρ→Prop} (h1:c=true→Rd R t P) (h2:c=false→Rd R e P):Rd R (sl c t e) P:=by cases c;exact h2 rfl;exact h1 rfl
theorem ra4 (n : Int) (l : List Int) (j : Int) (h1 : 0 ≤ j) (h2 : j ≤ 1000000) (hn : 0 < n) (hn2 : n ≤ 1000000) :
  ∃ v j',k9 ⟨n,l,j⟩=⟨1,v,j'⟩∧0≤v∧v < n∧j≤j'∧j'≤j+1:=by
 unfold k9 ea3
 simp only
 by_cases h:j≥(l.length:Int)
 ·rw[btD h]
  exact⟨0,j,rfl,by omega,hn,by omega,by omega⟩
 ·rw[bfD h]
  have hW:W (W (j+1) - 1)=j:=by rw[vc0,ya3 (by omega) (by omega)];omega
  have hW2:W (j+1)=j+1:=ya3 (by omega) (by omega)
  have hin:inB j l.length=true:=by rw[qc3];exact decide_eq_true (by omega)
  rw[hW,hW2,hin,lc2 _ hn (by omega),md4 _ hn (by omega)]
  exact⟨_,_,rfl,Int.emod_nonneg _ (by omega),Int.emod_lt_of_pos _ hn,by omega,by omega⟩
theorem Yc9 (m : Int) (l : List Int) (j : Int) (h1 : 0 ≤ j) (h2 : j ≤ 900000) (hm : 0 ≤ m) (hm2 : m ≤ 100000) :
  ∃ a b c j',Ma8 ⟨m,l,j⟩=⟨1,a,b,c,l,j'⟩∧Sm m a∧Sm m b∧Sm m c∧j≤j'∧j'≤j+3:=by
 unfold Ma8 Ya9
 simp only[m8,o0]
 have hW:W (W (2*m)+1)=2*m+1:=by rw[kb4,ya3 (by omega) (by omega)]
 rw[hW]
 obtain⟨v1,j1,e1,a1,b1,c1,d1⟩:=ra4 (2*m+1) l j h1 (by omega) (by omega) (by omega)
 rw[e1]
 obtain⟨v2,j2,e2,a2,b2,c2,d2⟩:=ra4 (2*m+1) l j1 (by omega) (by omega) (by omega) (by omega)
 simp only
 rw[e2]
 obtain⟨v3,j3,e3,a3,b3,c3,d3⟩:=ra4 (2*m+1) l j2 (by omega) (by omega) (by omega) (by omega)
 simp only
 rw[e3]
 refine⟨v1 - m,v2 - m,v3 - m,j3,?_,⟨by omega,by omega⟩,⟨by omega,by omega⟩,⟨by omega,by omega⟩,by omega,by omega⟩
 simp only
 rw[ya3 (n:=v1 - m) (by omega) (by omega),ya3 (n:=v2 - m) (by omega) (by omega),ya3 (n:=v3 - m) (by omega) (by omega)]
 rfl
def inV (v:V3):Bool:=smb 24 v.x&&(smb 24 v.y&&smb 24 v.z)
theorem Ad2 (v:V3):inV v=true↔Sm 24 v.x∧Sm 24 v.y∧Sm 24 v.z:=by unfold inV;rw[Bool.and_eq_true,Bool.and_eq_true,Yb8,Yb8,Yb8]
theorem Pd8 (v:V3):Fb5 v=some (b (inV v),[]):=by
 unfold Fb5 inV smb
 cases h1:decide (v.x < -24)<;>cases h2:decide (v.x > 24)<;>cases h3:decide (v.y < -24)<;>cases h4:decide (v.y > 24)<;>cases h5:decide (v.z < -24)<;>cases h6:decide (v.z > 24)<;>rfl
theorem ge3 (v:V3):Ra1 v=inV v:=by unfold Ra1;rw[Pd8];rfl
theorem Pd9 (v:V3):Ra2 v=true:=by unfold Ra2;rw[Pd8];rfl
def sub (a b:V3):V3:=⟨a.x - b.x,a.y - b.y,a.z - b.z⟩
theorem Ad3 {a b:V3} (ha:inV a=true) (hb:inV b=true):Ea7 a b=sub a b∧Sm 48 (sub a b).x∧Sm 48 (sub a b).y∧Sm 48 (sub a b).z:=by
 rw[Ad2] at ha hb
 obtain⟨⟨a1,a2⟩,⟨a3,a4⟩,a5,a6⟩:=ha
 obtain⟨⟨b1,b2⟩,⟨b3,b4⟩,b5,b6⟩:=hb
 unfold Ea7 sub
 rw[ya3 (by omega) (by omega),ya3 (by omega) (by omega),ya3 (by omega) (by omega)]
 exact⟨rfl,⟨by show _≤a.x - b.x;omega,by show a.x - b.x≤_;omega⟩,⟨by show _≤a.y - b.y;omega,by show a.y - b.y≤_;omega⟩,⟨by show _≤a.z - b.z;omega,by show a.z - b.z≤_;omega⟩⟩
theorem Jc5 {a b c : V3} (ha : inV a = true) (hb : inV b = true) (hc : inV c = true) :
  O4 (Ea7 b a) (Ea7 c a)=E4 (sub b a) (sub c a)∧Sm 4608 (E4 (sub b a) (sub c a)).x∧Sm 4608 (E4 (sub b a) (sub c a)).y∧Sm 4608 (E4 (sub b a) (sub c a)).z:=by
 obtain⟨e1,⟨u1,u2⟩,⟨u3,u4⟩,u5,u6⟩:=Ad3 hb ha
 obtain⟨e2,⟨v1,v2⟩,⟨v3,v4⟩,v5,v6⟩:=Ad3 hc ha
 rw[e1,e2,Yb6]
 generalize sub b a=p at *
 generalize sub c a=q at *
 have h1:=mb u3 u4 v5 v6;have h2:=mb u5 u6 v3 v4;have h3:=mb u5 u6 v1 v2;have h4:=mb u1 u2 v5 v6;have h5:=mb u1 u2 v3 v4;have h6:=mb u3 u4 v1 v2
 have k:Sm 4608 (E4 p q).x∧Sm 4608 (E4 p q).y∧Sm 4608 (E4 p q).z:=by unfold Sm E4;simp only;omega
 obtain⟨k1,k2,k3⟩:=k
 rw[ua0 (k1.mono (by omega)),ua0 (k2.mono (by omega)),ua0 (k3.mono (by omega))]
 exact⟨rfl,k1,k2,k3⟩
def Zd7 (a b c:V3):Pln×Bool :=
 if inV a&&(inV b&&inV c) then
  if g3 (E4 (sub b a) (sub c a))=0 then (⟨⟨0,0,0⟩,0⟩,false)
  else (⟨⟨Int.tdiv (E4 (sub b a) (sub c a)).x (g3 (E4 (sub b a) (sub c a))),Int.tdiv (E4 (sub b a) (sub c a)).y (g3 (E4 (sub b a) (sub c a))),Int.tdiv (E4 (sub b a) (sub c a)).z (g3 (E4 (sub b a) (sub c a)))⟩,
   dot ⟨Int.tdiv (E4 (sub b a) (sub c a)).x (g3 (E4 (sub b a) (sub c a))),Int.tdiv (E4 (sub b a) (sub c a)).y (g3 (E4 (sub b a) (sub c a))),Int.tdiv (E4 (sub b a) (sub c a)).z (g3 (E4 (sub b a) (sub c a)))⟩ a⟩,true)
 else (⟨⟨0,0,0⟩,0⟩,false)
theorem Gd3 (v:V3):0≤g3 v:=by unfold g3;omega
theorem Cc2 (a c d:V3):Aa5 a c d=some (.tup [.agg (tP.row (Zd7 a c d).1),b (Zd7 a c d).2],[]):=by
 unfold Aa5 Zd7
 simp only[ge3,Pd9]
 cases ha:inV a with
 | false=>rfl
 | true =>
  cases hc:inV c with
  | false=>rfl
  | true =>
   cases hd:inV d with
   | false=>rfl
   | true =>
    obtain⟨e,k1,k2,k3⟩:=Jc5 ha hc hd
    rw[e]
    generalize E4 (sub c a) (sub d a)=n at *
    have m1:=k1.mono (m:=1000000000000000000) (by omega)
    have m2:=k2.mono (m:=1000000000000000000) (by omega)
    have m3:=k3.mono (m:=1000000000000000000) (by omega)
    rw[Nd9 m1 m2 m3,zc1 m1 m2 m3]
    by_cases h0:g3 n=0
    ·rw[show (g3 n==0)=true from by rw[h0];rfl]
     simp only[Bool.and_self,if_true,h0]
     rfl
    ·have hp:=Gd3 n
     have q1:=F8 (g:=g3 n) k1 (by omega)
     have q2:=F8 (g:=g3 n) k2 (by omega)
     have q3:=F8 (g:=g3 n) k3 (by omega)
     rw[show (g3 n==0)=false from by rw[beq_eq_false_iff_ne];exact h0,ke8 m1 m2 m3 h0]
     simp only[Bool.and_self,if_true,h0,if_false]
     rw[ua0 (q1.mono (by omega)),ua0 (q2.mono (by omega)),ua0 (q3.mono (by omega))]
     have hdot:Da9 ⟨Int.tdiv n.x (g3 n),Int.tdiv n.y (g3 n),Int.tdiv n.z (g3 n)⟩ a=dot ⟨Int.tdiv n.x (g3 n),Int.tdiv n.y (g3 n),Int.tdiv n.z (g3 n)⟩ a:=by
      unfold Da9
      simp only[kb4,Pb7]
      obtain⟨⟨a1,a2⟩,⟨a3,a4⟩,a5,a6⟩:=(Ad2 a).1 ha
      have r1:=mb q1.1 q1.2 a1 a2;have r2:=mb q2.1 q2.2 a3 a4;have r3:=mb q3.1 q3.2 a5 a6
      rw[ya3 (by omega) (by omega)]
      rfl
     rw[hdot]
     rfl
theorem Gd4 (a b c:V3):ha5 a b c=Zd7 a b c:=by unfold ha5;rw[Cc2];rfl
theorem Kb1 (a b c:V3):ha6 a b c=true:=by unfold ha6;rw[Cc2];rfl
theorem Zd8 (l:List Int):Rd (one r1P) (cb8 l) (fun _=>True):=by
 unfold cb8
 simp only[m8,o0]
 obtain⟨v1,j1,e1,a1,b1,c1,d1⟩:=ra4 8 l 0 (by omega) (by omega) (by omega) (by omega)
 rw[e1]
 simp only
 obtain⟨v2,j2,e2,a2,b2,c2,d2⟩:=ra4 17 l j1 (by omega) (by omega) (by omega) (by omega)
 rw[e2]
 simp only
 obtain⟨x1,x2,x3,j3,e3,_,_,_,c3,d3⟩:=Yc9 8 l j2 (by omega) (by omega) (by omega) (by omega)
 rw[e3]
 simp only
 obtain⟨y1,y2,y3,j4,e4,_,_,_,c4,d4⟩:=Yc9 8 l j3 (by omega) (by omega) (by omega) (by omega)
 rw[e4]
 simp only
 obtain⟨z1,z2,z3,j5,e5,_,_,_,c5,d5⟩:=Yc9 8 l j4 (by omega) (by omega) (by omega) (by omega)
 rw[e5]
 simp only[Gd4,Kb1,lc2 _ (show (0:Int) < 3 by omega) (by omega),o0]
 simp only[Nat.beq_refl,Bool.and_true,p5]
 refine Rd.sl (fun _=>Rd.sl (fun _=>⟨_,_,rfl,rfl,trivial⟩) fun _=>?_) (fun _=>?_)
 ·exact Rd.sl (fun _=>⟨_,_,rfl,rfl,trivial⟩) fun _=>Rd.sl (fun _=>⟨_,_,rfl,rfl,trivial⟩) fun _=>⟨_,_,rfl,rfl,trivial⟩
 ·exact Rd.sl (fun _=>⟨_,_,rfl,rfl,trivial⟩) fun _=>Rd.sl (fun _=>⟨_,_,rfl,rfl,trivial⟩) fun _=>⟨_,_,rfl,rfl,trivial⟩
theorem Zd9 (l:List Int):vb4 l=true:=(Zd8 l).g
theorem ae0 (p:Pln) (v:V3):Rd (one r1I) (cb9 p v) (fun _=>True):=by
 unfold cb9
 simp only[jd5,Pd9,p5]
 exact Rd.sl (fun _=>⟨_,_,rfl,rfl,trivial⟩) fun _=>Rd.sl (fun _=>⟨_,_,rfl,rfl,trivial⟩) fun _=>Rd.sl (fun _=>⟨_,_,rfl,rfl,trivial⟩) fun _=>Rd.sl (fun _=>⟨_,_,rfl,rfl,trivial⟩) fun _=>⟨_,_,rfl,rfl,trivial⟩
theorem Qd0 (p:Pln) (v:V3):vb7 p v=true:=(ae0 p v).g
theorem ue7 (P:ma6) (hl:P.e7.length≤1000000000):∃ t s,lp (pa7 P) ⟨0⟩=(t,s)∧(t=1∨t=2∨t=3):=by
 obtain⟨l,x1,x2,x3,x4,x5,x6,x7,x8⟩:=P
 refine Ca4 (step:=pa7 ⟨l,x1,x2,x3,x4,x5,x6,x7,x8⟩) (mk:=fun j (_:Unit)=>(⟨(j:Int)⟩:fa9)) l.length (fun _ _=>True) (fun t _=>t=1∨t=2∨t=3) hl (fun j a hj _=>?_) (fun j a hj _=>?_) 0 () trivial
 ·simp only[pa7,ua1,Qd0,Int.toNat_natCast,p4 hj (show l.length≤4611686018427387904 from Nat.le_trans hl (by omega))]
  rw[btD (o2 hj),bt (f7 hj),p5]
  exact Nx.sl (fun _=>Nx.sl (fun _=>.ex (by simp)) fun _=>.nx ⟨(),rfl,trivial⟩) fun _=>.ex (by simp)
 ·simp only[pa7,ua1]
  rw[bfD (by omega)]
  exact⟨_,rfl,by simp⟩
theorem ue8 (l:List V3) (hl:l.length≤1000000000) (a c:Nat) (ha:a < l.length) (hc:c < a):∃ t s,lp (pa8 ⟨(a:Int),(c:Int)⟩) ⟨l,0⟩=(t,s)∧((t=1∨t=2)∧s.e7=l):=by
 refine Ca4 (step:=pa8 ⟨(a:Int),(c:Int)⟩) (mk:=fun j (_:Unit)=>(⟨l,(j:Int)⟩:ga0)) c (fun _ _=>True) (fun t s=>(t=1∨t=2)∧s.e7=l) (by omega) (fun j x hj _=>?_) (fun j x hj _=>?_) 0 () trivial
 ·simp only[pa8,ua2,Kb1,Int.toNat_natCast,m8,o0,p4 hj (show c≤4611686018427387904 by omega)]
  rw[btD (o2 hj),bt (f7 ha),bt (f7 (show c < l.length by omega)),bt (f7 (show j < l.length by omega)),p5]
  generalize hP:ma6.mk _ _ _ _ _ _ _ _ _=P3
  obtain⟨t,s,h1,h2⟩:=ue7 P3 (by subst hP;exact hl)
  rw[h1]
  rcases h2 with rfl | rfl | rfl
  ·exact .ex (by simp)
  ·exact .nx ⟨(),rfl,trivial⟩
  ·exact .nx ⟨(),rfl,trivial⟩
 ·simp only[pa8,ua2]
  rw[bfD (by omega)]
  exact⟨_,rfl,by simp⟩
theorem ue9 (l:List V3) (hl:l.length≤1000000000) (a:Nat) (ha:a < l.length):∃ t s,lp (pa9 ⟨(a:Int)⟩) ⟨l,0⟩=(t,s)∧((t=1∨t=2)∧s.e7=l):=by
 refine Ca4 (step:=pa9 ⟨(a:Int)⟩) (mk:=fun j (_:Unit)=>(⟨l,(j:Int)⟩:ga1)) a (fun _ _=>True) (fun t s=>(t=1∨t=2)∧s.e7=l) (by omega) (fun j x hj _=>?_) (fun j x hj _=>?_) 0 () trivial
 ·simp only[pa9,ua3,m8,o0,p4 hj (show a≤4611686018427387904 by omega)]
  obtain⟨t,s,h1,h2,h3⟩:=ue8 l hl a j ha hj
  rw[btD (o2 hj),h1]
  rcases h2 with rfl | rfl
  ·exact .ex (by simp)
  ·exact .nx ⟨(),by rw[h3],trivial⟩
 ·simp only[pa9,ua3]
  rw[bfD (by omega)]
  exact⟨_,rfl,by simp⟩
theorem ib0 (l:List V3) (hl:l.length≤1000000000):Rd (one r1B) (db0 l) (fun _=>True):=by
 have key:∃ t s,lp (qa0 ⟨⟩) ⟨l,0⟩=(t,s)∧(t=1∨t=2):=by
  refine Ca4 (step:=qa0 ⟨⟩) (mk:=fun j (_:Unit)=>(⟨l,(j:Int)⟩:ga2)) l.length (fun _ _=>True) (fun t s=>(t=1∨t=2)) hl (fun j x hj _=>?_) (fun j x hj _=>?_) 0 () trivial
  ·simp only[qa0,ua4,m8,o0,p4 hj (show l.length≤4611686018427387904 by omega)]
   obtain⟨t,s,h1,h2,h3⟩:=ue9 l hl j hj
   rw[btD (o2 hj),h1]
   rcases h2 with rfl | rfl
   ·exact .ex (by simp)
   ·exact .nx ⟨(),by rw[h3],trivial⟩
  ·simp only[qa0,ua4]
   rw[bfD (by omega)]
   exact⟨_,rfl,by simp⟩
 obtain⟨t,s,h1,h2⟩:=key
 unfold db0
 simp only[m8,o0]
 rw[h1]
 rcases h2 with rfl | rfl<;>exact⟨_,_,rfl,rfl,trivial⟩
theorem Qd1 (l:List V3) (hl:l.length≤1000000000):Ma9 l=true:=(ib0 l hl).g
theorem ud8 (l:List V3) (hl:l.length≤1000000000):Rd (one r1I) (Ra4 l) (fun _=>True):=by
 have h:=kb5 (step:=ua5 ⟨l⟩) (mk:=fun j=>(⟨(j:Int)⟩:T3)) (c:=fun v=>!inV v) (u:=1) (fin:=2) tV l hl
  (fun j hj=>by
   simp only[ua5,oa3,Int.toNat_natCast,ge3,Pd9,p4 hj (show l.length≤4611686018427387904 by omega)]
   rw[btD (o2 hj),bt (f7 hj),p5])
  (by simp only[ua5,oa3];rw[bfD (U5 (Nat.lt_irrefl _))]) 0 (Nat.zero_le _)
 unfold Ra4
 simp only[m8,o0,K6,Qd1 l hl]
 rw[show (⟨0⟩:T3)=⟨((0:Nat):Int)⟩ from rfl,h]
 refine Rd.sl (fun _=>⟨_,_,rfl,rfl,trivial⟩) fun _=>?_
 rw[List.drop_zero]
 cases l.any fun v=>!inV v with
 | true=>exact⟨_,_,rfl,rfl,trivial⟩
 | false =>
  show Rd (one r1I) (sl (db1 l) (some (i 11,[])) (some (i 0,[]))) (fun _=>True)
  exact Rd.sl (fun _=>⟨_,_,rfl,rfl,trivial⟩) fun _=>⟨_,_,rfl,rfl,trivial⟩
theorem Gd5 (l:List V3) (hl:l.length≤1000000000):Fb8 l=true:=(ud8 l hl).g
theorem Qd2 (p:Pln) (l:List V3) (hl:l.length≤1000000000):Rd (one r1B) (Ra5 p l) (fun _=>True):=by
 have h:=kb5 (step:=ua6 ⟨l,p.n.x,p.n.y,p.n.z,p.b⟩) (mk:=fun j=>(⟨(j:Int)⟩:T4)) (c:=fun v=>decide (vb6 p v > 0)) (u:=1) (fin:=2) tV l hl
  (fun j hj=>by
   simp only[ua6,oa4,Int.toNat_natCast,Qd0,p4 hj (show l.length≤4611686018427387904 by omega)]
   rw[btD (o2 hj),bt (f7 hj),p5])
  (by simp only[ua6,oa4];rw[bfD (U5 (Nat.lt_irrefl _))]) 0 (Nat.zero_le _)
 unfold Ra5
 simp only[m8,o0]
 rw[show (⟨0⟩:T4)=⟨((0:Nat):Int)⟩ from rfl,h]
 split<;>exact⟨_,_,rfl,rfl,trivial⟩
theorem ae1 (p:Pln) (l:List V3) (hl:l.length≤1000000000):ga3 p l=true:=(Qd2 p l hl).g
theorem me2 (p q:Pln):Rd (one r1I) (Aa6 p q) (fun _=>True):=by
 have key:∃ t s,lp (aa6 ⟨p.n.x,p.n.y,p.n.z,p.b,q.n.x,q.n.y,q.n.z,q.b⟩) ⟨0⟩=(t,s)∧(t=1∨t=2∨t=3):=by
  refine Ca4 (step:=aa6 ⟨p.n.x,p.n.y,p.n.z,p.b,q.n.x,q.n.y,q.n.z,q.b⟩) (mk:=fun j (_:Unit)=>(⟨(j:Int)⟩:O6)) 4 (fun _ _=>True) (fun t s=>(t=1∨t=2∨t=3)) (by omega) (fun j x hj _=>?_) (fun j x hj _=>?_) 0 () trivial
  ·have hn:=p4 hj (show 4≤4611686018427387904 by omega)
   simp only[aa6,fa8,Int.toNat_natCast,hn]
   have hlt:(j:Int) < 4:=by omega
   have hin:=f7 hj
   have g:∀ x1 x2 x3 x4:Int,((Nat.ble ((0+(j*1))+1) 4)&&(K7 [(CK.int .i64)] (f0 [(i x1),(i x2),(i x3),(i x4)] (0+(j*1)))))=true:=by
    intro x1 x2 x3 x4
    match j,hj with
    | 0,_=>rfl
    | 1,_=>rfl
    | 2,_=>rfl
    | 3,_=>rfl
   rw[btD hlt]
   simp only[hin,g,p5]
   exact Nx.sl (fun _=>.ex (by simp)) fun _=>Nx.sl (fun _=>.ex (by simp)) fun _=>.nx ⟨(),rfl,trivial⟩
  ·simp only[aa6,fa8]
   rw[bfD (by omega)]
   exact⟨_,rfl,by simp⟩
 obtain⟨t,s,h1,h2⟩:=key
 unfold Aa6
 simp only
 rw[h1]
 rcases h2 with rfl | rfl | rfl<;>exact⟨_,_,rfl,rfl,trivial⟩
theorem me3 (p q:Pln):mb6 p q=true:=(me2 p q).g
theorem ud9 (l:List Pln) (n:Nat) (h:n≤l.length):l8 (fun k=>(fun k=>tP.row (gL tP l k)) (0+k)) (List.range (n - 0))=bL tP (l.take n):=by
 rw[← ab1,l6,l6,List.length_take,Nat.min_eq_left h,Nat.sub_zero]
 apply List.map_congr_left
 intro k hk
 rw[List.mem_range] at hk
 show tP.row (gL tP l (0+k))=tP.row (gL tP (l.take n) k)
 congr 1
 simp[gL,List.getD_eq_getElem?_getD,List.getElem?_take,hk]
theorem vd0 (l:List Pln) (n:Nat):l8 (fun k=>(fun k=>tP.row (gL tP l k)) (n+k)) (List.range (l.length - n))=bL tP (l.drop n):=by
 rw[← ab1,l6,l6,List.length_drop]
 apply List.map_congr_left
 intro k hk
 show tP.row (gL tP l (n+k))=tP.row (gL tP (l.drop n) k)
 rw[Zb1]
theorem ac0 (l:List Pln) (x1 x2 x3 x4:Int):app (bL tP l) [[i x1,i x2,i x3,i x4]]=bL tP (l++[⟨⟨x1,x2,x3⟩,x4⟩]):=Ga1 tP l [⟨⟨x1,x2,x3⟩,x4⟩]
def Zc0 (x:List Pln) (y:Pln) (n:Nat):List Pln:=x.take n++(y::x.drop n)
theorem wb7 {l:List Pln} {n:Nat} {r:List (List b7)} {P:List Pln→Prop} (hn:n=l.length) (hr:r=bL tP l) (h:P l):Rd (one (r1L tP)) (some (.sl 0 0 n 0,[⟨50,4,r,true,false,0⟩])) P:=by
 subst hn hr
 exact⟨_,l,rfl,Rb4 l,h⟩
theorem Qd3 (x:List Pln) (y:Pln) (hx:x.length≤1000000):Rd (one (r1L tP)) (qb6 x y) (fun r=>r≠[]∧r.length≤x.length+1∧∀ p∈r,p=y∨p∈x):=by
 have h:=ib4 (step:=xa0 ⟨x,y.n.x,y.n.y,y.n.z,y.b⟩) (mk:=fun j=>(⟨(j:Int)⟩:ga4)) (c:=fun p=>!decide (Aa7 p y < 0)) (u:=1) (fin:=2) tP x (by omega)
  (fun j hj=>by
   simp only[xa0,Ba0,Int.toNat_natCast,me3,p4 hj (show x.length≤4611686018427387904 by omega)]
   rw[btD (o2 hj),bt (f7 hj),p5]
   cases decide (Aa7 (gL tP x j) y < 0)<;>rfl)
  (by simp only[xa0,Ba0];rw[bfD (U5 (Nat.lt_irrefl _))]) 0 (Nat.zero_le _)
 rw[List.drop_zero] at h
 have key:∃ t n,lp (xa0 ⟨x,y.n.x,y.n.y,y.n.z,y.b⟩) ⟨0⟩=(t,⟨((n:Nat):Int)⟩)∧(t=1∨t=2)∧n≤x.length:=by
  rw[show (⟨0⟩:ga4)=⟨((0:Nat):Int)⟩ from rfl,h]
  split
  ·exact⟨1,_,rfl,.inl rfl,by rw[Nat.zero_add];exact List.findIdx_le_length⟩
  ·exact⟨2,_,rfl,.inr rfl,Nat.le_refl _⟩
 obtain⟨t,n,h1,h2,h3⟩:=key
 have hlo:inB (n:Int) (x.length+1)=true:=f7 (by omega)
 have hd:(bL tP (x.take n)).length=n:=by rw[← l4,O7,List.length_take];omega
 have hmem:∀ p∈Zc0 x y n,p=y∨p∈x:=fun p hp=>by
  unfold Zc0 at hp
  rcases List.mem_append.1 hp with hp | hp
  ·exact .inr (List.mem_of_mem_take hp)
  ·rcases List.mem_cons.1 hp with hp | hp
   ·exact .inl hp
   ·exact .inr (List.mem_of_mem_drop hp)
 have hne:Zc0 x y n≠[]:=by unfold Zc0;simp
 have hlen:(Zc0 x y n).length=x.length+1:=by unfold Zc0;simp only[List.length_append,List.length_cons,List.length_take,List.length_drop];omega
 have lt:len (bL tP (x.take n))=n:=by rw[l4];exact hd
 have ld:len (bL tP (x.drop n))=x.length - n:=by rw[O7,List.length_drop]
 have b1:(Nat.beq 1 1&&Nat.ble ((1+(x.length - n))*32) room)=true:=by rw[ma1 (by omega)];rfl
 have b2:(Nat.beq 0 0&&Nat.ble ((0+n)*32) room)=true:=by rw[ma1 (by omega)];rfl
 have e0:app [] (bL tP (x.take n))=bL tP (x.take n):=rfl
 have b3:(Nat.beq (0+n) n&&Nat.ble (((0+n)+1)*32) room)=true:=by rw[ma1 (by omega),Nat.zero_add,Nat.beq_refl];rfl
 have l3:len (bL tP (x.take n++[y]))=n+1:=by rw[O7,List.length_append,List.length_take];simp only[List.length_singleton];omega
 have b4:(Nat.beq ((0+n)+1) (n+1)&&Nat.ble ((((0+n)+1)+(x.length - n))*32) room)=true:=by rw[ma1 (by omega),Nat.zero_add,Nat.beq_refl];rfl
 have z0:∀ {k:Nat},Nat.beq k 0=true→k=0:=fun {k} h=>Nat.eq_of_beq_eq_true h
 have fin:∀ m r,m=x.length+1→r=bL tP (Zc0 x y n)→Rd (one (r1L tP)) (some (.sl 0 0 m 0,[⟨50,4,r,true,false,0⟩])) (fun r=>r≠[]∧r.length≤x.length+1∧∀ p∈r,p=y∨p∈x) :=
  fun m r hm hr=>wb7 (by rw[hlen];exact hm) hr ⟨hne,by omega,hmem⟩
 have tail : Rd (one (r1L tP)) (sl (Nat.beq n 0) (sl (Nat.beq (x.length - n) 0) (some ((.sl 0 0 1 0), [⟨50, 4, [[(i y.n.x), (i y.n.y), (i y.n.z), (i y.b)]], true, false, 0⟩]))
   (some ((.sl 0 0 (1+(x.length - n)) 0),[⟨50,4,(app [[(i y.n.x),(i y.n.y),(i y.n.z),(i y.b)]] (bL tP (x.drop n))),true,false,0⟩])))
   (sl (Nat.beq (x.length - n) 0) (some ((.sl 0 0 ((0+n)+1) 0),[⟨50,4,bL tP (x.take n++[y]),true,false,0⟩]))
    (some ((.sl 0 0 (((0+n)+1)+(x.length - n)) 0),[⟨50,4,(app (bL tP (x.take n++[y])) (bL tP (x.drop n))),true,false,0⟩])))) (fun r=>r≠[]∧r.length≤x.length+1∧∀ p∈r,p=y∨p∈x):=by
  refine Rd.sl (fun q1=>Rd.sl (fun q2=>?_) (fun q2=>?_)) (fun q1=>Rd.sl (fun q2=>?_) (fun q2=>?_))
  ·have:=z0 q1;have:=z0 q2
   refine fin _ _ (by omega) ?_
   have:x=[]:=List.eq_nil_of_length_eq_zero (by omega)
   subst this
   rw[show n=0 by omega];rfl
  ·have:=z0 q1;subst this
   exact fin _ _ (by omega) rfl
  ·have:=z0 q2
   refine fin _ _ (by omega) ?_
   unfold Zc0
   rw[show x.drop n=[] from List.drop_eq_nil_of_le (by omega)]
  ·refine fin _ _ (by omega) ?_
   rw[Ga1]
   unfold Zc0
   rw[List.append_assoc];rfl
 have same:∀ p:Pln,(p.n.x==y.n.x&&(p.n.y==y.n.y&&(p.n.z==y.n.z&&(p.b==y.b&&true))))=true→n < x.length→Rd (one (r1L tP)) (some (eL tP x,[])) (fun r=>r≠[]∧r.length≤x.length+1∧∀ p∈r,p=y∨p∈x):=fun p _ hn =>
  ⟨_,x,rfl,zd2 tP x,List.ne_nil_of_length_pos (by omega),Nat.le_succ _,fun p hp=>Or.inr hp⟩
 unfold qb6
 simp only[m8,o0]
 rw[h1]
 simp only[Int.toNat_natCast,ud9 x n h3,vd0,lt,ld,b1,b2,e0,b3,ac0,l3,b4,hlo,p5]
 have main : Rd (one (r1L tP)) (sl (decide ((n : Int) < (x.length : Int))) (sl (inB (n : Int) x.length) (sl (((gL tP x n).n.x == y.n.x) && (((gL tP x n).n.y == y.n.y) && (((gL tP x n).n.z == y.n.z) && (((gL tP x n).b == y.b) && true)))) (some (eL tP x, []))
   (sl (Nat.beq n 0) (sl (Nat.beq (x.length - n) 0) (some ((.sl 0 0 1 0),[⟨50,4,[[(i y.n.x),(i y.n.y),(i y.n.z),(i y.b)]],true,false,0⟩]))
   (some ((.sl 0 0 (1+(x.length - n)) 0),[⟨50,4,(app [[(i y.n.x),(i y.n.y),(i y.n.z),(i y.b)]] (bL tP (x.drop n))),true,false,0⟩])))
   (sl (Nat.beq (x.length - n) 0) (some ((.sl 0 0 ((0+n)+1) 0),[⟨50,4,bL tP (x.take n++[y]),true,false,0⟩]))
    (some ((.sl 0 0 (((0+n)+1)+(x.length - n)) 0),[⟨50,4,(app (bL tP (x.take n++[y])) (bL tP (x.drop n))),true,false,0⟩]))))) none)
   (sl (Nat.beq n 0) (sl (Nat.beq (x.length - n) 0) (some ((.sl 0 0 1 0),[⟨50,4,[[(i y.n.x),(i y.n.y),(i y.n.z),(i y.b)]],true,false,0⟩]))
   (some ((.sl 0 0 (1+(x.length - n)) 0),[⟨50,4,(app [[(i y.n.x),(i y.n.y),(i y.n.z),(i y.b)]] (bL tP (x.drop n))),true,false,0⟩])))
   (sl (Nat.beq (x.length - n) 0) (some ((.sl 0 0 ((0+n)+1) 0),[⟨50,4,bL tP (x.take n++[y]),true,false,0⟩]))
    (some ((.sl 0 0 (((0+n)+1)+(x.length - n)) 0),[⟨50,4,(app (bL tP (x.take n++[y])) (bL tP (x.drop n))),true,false,0⟩]))))) (fun r=>r≠[]∧r.length≤x.length+1∧∀ p∈r,p=y∨p∈x):=by
  by_cases hn:n < x.length
  ·rw[btD (o2 hn),bt (f7 hn)]
   exact Rd.sl (fun q=>same _ q hn) fun _=>tail
  ·rw[bfD (U5 hn)]
   exact tail
 rcases h2 with rfl | rfl
 ·exact main
 ·exact main
end Go.Ev.Ce
namespace Go.Ev.Ce
open Go Go.Ev Go.Ev.L Go.Proofs
theorem ge4 (x:List Pln) (y:Pln) (hx:x.length≤1000000):qa1 x y=true:=(Qd3 x y hx).g
theorem ge5 (x:List Pln) (y:Pln) (hx:x.length≤1000000):H4 x y≠[]∧(H4 x y).length≤x.length+1∧∀ p∈H4 x y,p=y∨p∈x:=(Qd3 x y hx).p
structure Fc (ph:Nat) (out:List Pln) (m:Nat):Prop where
 h:(ph=0∧out=[])∨ph=1
 l:out.length≤m
theorem Fc.more {ph m m':Nat} {out:List Pln} (h:Fc ph out m) (hm:m≤m'):Fc ph out m':=⟨h.h,Nat.le_trans h.l hm⟩
theorem ae2 (l : List V3) (hl : l.length ≤ 48) (a c : Nat) (ha : a < l.length) (hc : c < a) (h0 : Nat) (out : List Pln) (m : Nat) (hm : m ≤ 900000) (hf : Fc h0 out m) :
  ∃ t s,lp (ua7 ⟨l,(a:Int),(c:Int)⟩) ⟨h0,0,out⟩=(t,s)∧(t=s.ph+1∧Fc s.ph s.ca7 (m+100)):=by
 refine Ca4 (step:=ua7 ⟨l,(a:Int),(c:Int)⟩) (mk:=fun j (x:Nat×List Pln)=>(⟨x.1,(j:Int),x.2⟩:E0)) c (fun j x=>Fc x.1 x.2 (m+2*j)∧j≤48) (fun t s=>t=s.ph+1∧Fc s.ph s.ca7 (m+100)) (by omega) (fun j x hj hx=>?_) (fun j x hj hx=>?_) 0 (h0,out) ⟨hf,by omega⟩
 ·obtain⟨h,o⟩:=x
  obtain⟨⟨hx,hx2⟩,_⟩:=hx
  have hn:=p4 hj (show c≤4611686018427387904 by omega)
  have hh:∀ p,ga3 p l=true:=fun p=>ae1 p l (by omega)
  have hg1:∀ y,qa1 o y=true:=fun y=>ge4 o y (by simp only at hx2;omega)
  have hp1:∀ y,H4 o y≠[]∧(H4 o y).length≤o.length+1:=fun y=>by have:=ge5 o y (by simp only at hx2;omega);exact⟨this.1,this.2.1⟩
  have hg2:∀ y z,qa1 (H4 o y) z=true:=fun y z=>ge4 _ z (by have:=(hp1 y).2;simp only at hx2;omega)
  have hp2:∀ y z,(H4 (H4 o y) z).length≤o.length+2:=fun y z=>by
   have:=(ge5 (H4 o y) z (by have:=(hp1 y).2;simp only at hx2;omega)).2.1
   have:=(hp1 y).2
   omega
  simp only at hx hx2
  have stay:Fc h o (m+2*(j+1))∧j+1≤48:=⟨⟨hx,by omega⟩,by omega⟩
  have put1:∀ y,Fc 1 (H4 o y) (m+2*(j+1))∧j+1≤48:=fun y=>⟨⟨.inr rfl,by have:=(hp1 y).2;omega⟩,by omega⟩
  have put2:∀ y z,Fc 1 (H4 (H4 o y) z) (m+2*(j+1))∧j+1≤48:=fun y z=>⟨⟨.inr rfl,by have:=hp2 y z;omega⟩,by omega⟩
  rcases hx with⟨rfl,rfl⟩ | rfl
  ·show Nx (X0 Stp.next Stp.exit Stp.fail _ _) _ _
   simp only[X0,Kb1,Int.toNat_natCast,m8,K6,hh,hg1,hg2,hn]
   rw[btD (o2 hj),bt (f7 ha),bt (f7 (show c < l.length by omega)),bt (f7 (show j < l.length by omega))]
   simp only[p5]
   refine Nx.sl (fun _=>.nx ⟨(0,[]),rfl,stay⟩) fun _=>Nx.sl (fun _=>Nx.sl (fun _=>.nx ⟨(1,_),rfl,put2 _ _⟩) fun _=>.nx ⟨(1,_),rfl,put1 _⟩) fun _=>Nx.sl (fun _=>.nx ⟨(1,_),rfl,put1 _⟩) fun _=>.nx ⟨(0,[]),rfl,stay⟩
  ·show Nx (X1 Stp.next Stp.exit Stp.fail _ _) _ _
   simp only[X1,Kb1,Int.toNat_natCast,m8,K6,hh,hg1,hg2,hn]
   rw[btD (o2 hj),bt (f7 ha),bt (f7 (show c < l.length by omega)),bt (f7 (show j < l.length by omega))]
   simp only[p5]
   refine Nx.sl (fun _=>.nx ⟨(1,o),rfl,stay⟩) fun _=>Nx.sl (fun _=>Nx.sl (fun _=>.nx ⟨(1,_),rfl,put2 _ _⟩) fun _=>.nx ⟨(1,_),rfl,put1 _⟩) fun _=>Nx.sl (fun _=>.nx ⟨(1,_),rfl,put1 _⟩) fun _=>.nx ⟨(1,o),rfl,stay⟩
 ·obtain⟨h,o⟩:=x
  obtain⟨⟨hx,hx2⟩,h48⟩:=hx
  simp only at hx hx2
  rcases hx with⟨rfl,rfl⟩ | rfl
  ·refine⟨1,?_,rfl,⟨.inl ⟨rfl,rfl⟩,by show 0≤_;omega⟩⟩
   show X0 Stp.next Stp.exit Stp.fail _ _=_
   simp only[X0]
   rw[bfD (by omega)]
  ·refine⟨2,?_,rfl,⟨.inr rfl,by show o.length≤_;omega⟩⟩
   show X1 Stp.next Stp.exit Stp.fail _ _=_
   simp only[X1]
   rw[bfD (by omega)]
theorem ae3 (l : List V3) (hl : l.length ≤ 48) (a : Nat) (ha : a < l.length) (h0 : Nat) (out : List Pln) (m : Nat) (hm : m ≤ 800000) (hf : Fc h0 out m) :
  ∃ t s,lp (ua8 ⟨(a:Int)⟩) ⟨h0,l,0,out⟩=(t,s)∧(t=s.ph+1∧Fc s.ph s.ca7 (m+5000)∧s.e7=l):=by
 refine Ca4 (step:=ua8 ⟨(a:Int)⟩) (mk:=fun j (x:Nat×List Pln)=>(⟨x.1,l,(j:Int),x.2⟩:E1)) a (fun j x=>Fc x.1 x.2 (m+100*j)∧j≤48) (fun t s=>t=s.ph+1∧Fc s.ph s.ca7 (m+5000)∧s.e7=l) (by omega) (fun j x hj hx=>?_) (fun j x hj hx=>?_) 0 (h0,out) ⟨hf,by omega⟩
 ·obtain⟨h,o⟩:=x
  obtain⟨hx,_⟩:=hx
  have hn:=p4 hj (show a≤4611686018427387904 by omega)
  simp only at hx
  obtain⟨t,s,e1,e2,e3⟩:=ae2 l hl a j ha hj h o (m+100*j) (by omega) hx
  obtain⟨s1,s2,s3⟩:=s
  simp only at e2 e3
  have go:Fc s1 s3 (m+100*(j+1))∧j+1≤48:=⟨e3.more (by omega),by omega⟩
  rcases hx.h with⟨rfl,rfl⟩ | rfl
  ·show Nx (X2 Stp.next Stp.exit Stp.fail _ _) _ _
   simp only[X2,m8,o0,hn]
   rw[btD (o2 hj),e1,e2]
   rcases e3.h with⟨rfl,rfl⟩ | rfl
   ·exact .nx ⟨(0,[]),rfl,go⟩
   ·exact .nx ⟨(1,s3),rfl,go⟩
  ·show Nx (X3 Stp.next Stp.exit Stp.fail _ _) _ _
   simp only[X3,m8,o0,hn]
   rw[btD (o2 hj),e1,e2]
   rcases e3.h with⟨rfl,rfl⟩ | rfl
   ·exact .nx ⟨(0,[]),rfl,go⟩
   ·exact .nx ⟨(1,s3),rfl,go⟩
 ·obtain⟨h,o⟩:=x
  obtain⟨hx,h48⟩:=hx
  simp only at hx
  have h2:=hx.more (show m+100*j≤m+5000 by omega)
  rcases hx.h with⟨rfl,rfl⟩ | rfl
  ·refine⟨1,?_,rfl,h2,rfl⟩
   show X2 Stp.next Stp.exit Stp.fail _ _=_
   simp only[X2]
   rw[bfD (by omega)]
  ·refine⟨2,?_,rfl,h2,rfl⟩
   show X3 Stp.next Stp.exit Stp.fail _ _=_
   simp only[X3]
   rw[bfD (by omega)]
theorem ae4 (l : List V3) (hl : l.length ≤ 48) :
  ∃ t s,lp (Ja2 ⟨⟩) ⟨0,l,0,[]⟩=(t,s)∧(t=s.ph+1∧Fc s.ph s.ca7 250000):=by
 refine Ca4 (step:=Ja2 ⟨⟩) (mk:=fun j (x:Nat×List Pln)=>(⟨x.1,l,(j:Int),x.2⟩:G6)) l.length (fun j x=>Fc x.1 x.2 (5000*j)∧j≤48) (fun t s=>t=s.ph+1∧Fc s.ph s.ca7 250000) (by omega) (fun j x hj hx=>?_) (fun j x hj hx=>?_) 0 (0,[]) ⟨⟨.inl ⟨rfl,rfl⟩,Nat.le_refl _⟩,by omega⟩
 ·obtain⟨h,o⟩:=x
  obtain⟨hx,_⟩:=hx
  have hn:=p4 hj (show l.length≤4611686018427387904 by omega)
  simp only at hx
  obtain⟨t,s,e1,e2,e3,e4⟩:=ae3 l hl j hj h o (5000*j) (by omega) hx
  obtain⟨s1,s2,s3,s4⟩:=s
  simp only at e2 e3 e4
  subst e4
  have go:Fc s1 s4 (5000*(j+1))∧j+1≤48:=⟨e3.more (by omega),by omega⟩
  rcases hx.h with⟨rfl,rfl⟩ | rfl
  ·show Nx (X4 Stp.next Stp.exit Stp.fail ⟨⟩ _) _ _
   simp only[X4,m8,o0,hn]
   rw[btD (o2 hj),e1,e2]
   rcases e3.h with⟨rfl,rfl⟩ | rfl
   ·exact .nx ⟨(0,[]),rfl,go⟩
   ·exact .nx ⟨(1,s4),rfl,go⟩
  ·show Nx (X5 Stp.next Stp.exit Stp.fail ⟨⟩ _) _ _
   simp only[X5,m8,o0,hn]
   rw[btD (o2 hj),e1,e2]
   rcases e3.h with⟨rfl,rfl⟩ | rfl
   ·exact .nx ⟨(0,[]),rfl,go⟩
   ·exact .nx ⟨(1,s4),rfl,go⟩
 ·obtain⟨h,o⟩:=x
  obtain⟨hx,h48⟩:=hx
  simp only at hx
  have h2:=hx.more (show 5000*j≤250000 by omega)
  rcases hx.h with⟨rfl,rfl⟩ | rfl
  ·refine⟨1,?_,rfl,h2⟩
   show X4 Stp.next Stp.exit Stp.fail ⟨⟩ _=_
   simp only[X4]
   rw[bfD (by omega)]
  ·refine⟨2,?_,rfl,h2⟩
   show X5 Stp.next Stp.exit Stp.fail ⟨⟩ _=_
   simp only[X5]
   rw[bfD (by omega)]
theorem me4 (l:List Pln) (n:Int):(two (r1L tP) r1I).rd (.tup [eL tP l,i n],[])=some (l,n):=by
 have h:(r1L tP).rd [] (eL tP l)=some l:=by
  show Bool.rec (motive:=fun _=>Option (List Pln)) none (some (rt tP l)) (Bool.and (Nat.beq tP.es tP.es) (okE tP l))=_
  rw[m8,K6,Nat.beq_refl]
  rfl
 simp only[two,h]
 rfl
theorem md7 (l:List V3) (hl:l.length≤48):Rd (two (r1L tP) r1I) (Ra8 l) (fun r=>r.1.length≤250000):=by
 obtain⟨t,s,e1,e2,e3⟩:=ae4 l hl
 unfold Ra8
 simp only[m8,o0,K6,Gd5 l (show l.length≤1000000000 by omega),p5]
 refine Rd.sl (fun _=>⟨_,([],Fb7 l),rfl,rfl,Nat.zero_le _⟩) fun _=>?_
 rw[e1,e2]
 obtain⟨s1,s2,s3,s4⟩:=s
 simp only at e3 ⊢
 rcases e3.h with⟨rfl,rfl⟩ | rfl
 ·exact⟨_,([],0),rfl,rfl,Nat.zero_le _⟩
 ·exact⟨_,(s4,0),rfl,me4 s4 0,e3.l⟩
theorem ae5 (l:List V3) (hl:l.length≤48):Ea8 l=true:=(md7 l hl).g
theorem ae6 (l:List V3) (hl:l.length≤48):(jb1 l).1.length≤250000:=(md7 l hl).p
def phV (out:List V3):Nat:=match out with
 | []=>0
 | _::_=>1
theorem ae7 (out:List V3) (x:V3):phV (out++[x])=1:=by cases out<;>rfl
theorem md8 (l:List V3) (x1 x2 x3:Int):app (bL tV l) [[i x1,i x2,i x3]]=bL tV (l++[⟨x1,x2,x3⟩]):=Ga1 tV l [⟨x1,x2,x3⟩]
theorem ve0 {l:List V3} {m:Nat} (h:m < l.length):(((Nat.blt (0+m) (len (bL tV l)))&&(Nat.ble (0+3) (len (i9 (bL tV l) (0+m)))))&&(K7 [(CK.int .i64),(CK.int .i64),(CK.int .i64)] (f0 (i9 (bL tV l) (0+m)) 0)))=true:=by
 rw[Nat.zero_add,V7 tV h,O7,show Nat.blt m l.length=true from by rw[Nat.blt_eq];exact h]
 rfl
theorem ve1 {l:List V3} {m:Nat} (h:m < l.length):(((Nat.blt (0+m) (len (bL tV l)))&&(Nat.ble (2+1) (len (i9 (bL tV l) (0+m)))))&&(K7 [(CK.int .i64)] (f0 (i9 (bL tV l) (0+m)) 2)))=true:=by
 rw[Nat.zero_add,V7 tV h,O7,show Nat.blt m l.length=true from by rw[Nat.blt_eq];exact h]
 rfl
theorem ve2 {n:Nat} {l:List V3} (hn:l.length=n) (h:n≤1000000000):(Nat.beq n (len (bL tV l))&&Nat.ble ((n+1)*24) room)=true:=by
 subst hn
 rw[O7,Nat.beq_refl,Bool.true_and,Nat.ble_eq]
 unfold room
 omega
theorem ae8 (x : List Int) (N : Nat) (h4 : 4 ≤ N) (h8 : N ≤ 8) (j0 : Int) (hj0 : 0 ≤ j0 ∧ j0 ≤ 10) :
  ∃ idx out,lp (Ca3 ⟨(N:Int)⟩) ⟨0,0,x,j0,0,[]⟩=(2,⟨1,(N:Int),x,idx,N,bL tV out⟩)∧out.length=N:=by
 have key:=Ca4 (step:=Ca3 ⟨(N:Int)⟩) (mk:=fun j (a:Int×List V3)=>(⟨phV a.2,(j:Int),x,a.1,a.2.length,bL tV a.2⟩:z6)) N
  (fun j a=>a.2.length=j∧0≤a.1∧a.1≤10+4*j∧j≤N) (fun t s=>t=2∧∃ idx out,s=⟨1,(N:Int),x,idx,N,bL tV out⟩∧out.length=N) (by omega) (fun j a hj ha=>?_) (fun j a hj ha=>?_) 0 (j0,[]) ⟨rfl,hj0.1,by omega,by omega⟩
 ·obtain⟨t,s,e1,rfl,idx,out,e2,e3⟩:=key
  exact⟨idx,out,by rw[← e2];exact e1,e3⟩
 ·obtain⟨at0,out⟩:=a
  obtain⟨ho,ha1,ha2,_⟩:=ha
  simp only at ho ha1 ha2
  have hn:=p4 hj (show N≤4611686018427387904 by omega)
  obtain⟨v1,j1,d1,_,_,c1,b1⟩:=ra4 17 x at0 ha1 (by omega) (by omega) (by omega)
  obtain⟨v2,j2,d2,_,_,c2,b2⟩:=ra4 17 x j1 (by omega) (by omega) (by omega) (by omega)
  obtain⟨v3,j3,d3,_,_,c3,b3⟩:=ra4 17 x j2 (by omega) (by omega) (by omega) (by omega)
  obtain⟨v4,j4,d4,_,_,c4,b4⟩:=ra4 6 x j3 (by omega) (by omega) (by omega) (by omega)
  have leaf : ∀ (E : Nat → Prop) (x1 x2 x3 : Int), Nx (.next (⟨1, ((j + 1 : Nat) : Int), x, j4, j + 1, bL tV (out ++ [⟨x1, x2, x3⟩])⟩ : z6)) E
    (fun s=>∃ a':Int×List V3,s=⟨phV a'.2,((j+1:Nat):Int),x,a'.1,a'.2.length,bL tV a'.2⟩∧a'.2.length=j+1∧0≤a'.1∧a'.1≤10+4*((j+1:Nat):Int)∧j+1≤N):=fun E x1 x2 x3=>by
   have hl:(out++[(⟨x1,x2,x3⟩:V3)]).length=j+1:=by simp[ho]
   exact .nx ⟨(j4,out++[⟨x1,x2,x3⟩]),by simp only[ae7,hl],hl,by show 0≤j4;omega,by show j4≤_;omega,by omega⟩
  cases out with
  | nil =>
   have hj0':j=0:=by simpa using ho.symm
   subst hj0'
   show Nx (ka7 Stp.next Stp.exit Stp.fail _ _) _ _
   simp only[ka7,m8,o0,d1,d2,d3,d4,hn]
   rw[btD (o2 hj)]
   have f1:decide (((0:Nat):Int) > 1)=false:=rfl
   have f2:decide (((0:Nat):Int) > 0)=false:=rfl
   have f3:decide (((0:Nat):Int) > 2)=false:=rfl
   have lf:∀ (E:Nat→Prop) (x1 x2 x3:Int),Nx (.next (⟨1,((0+1:Nat):Int),x,j4,1,[[i x1,i x2,i x3]]⟩:z6)) E _:=leaf
   simp only[f1,f2,f3,ob4,Nat.beq_refl,Bool.and_true,p5]
   refine Nx.sl (fun _=>?_) (fun _=>?_)<;>refine Nx.sl (fun _=>?_) (fun _=>?_)
   all_goals first
    | exact lf _ _ _ _
    | (refine Nx.sl (fun _=>?_) (fun _=>?_)<;>exact lf _ _ _ _)
  | cons o os =>
   have h1:1≤j:=by simp only[List.length_cons] at ho;omega
   generalize hO:o::os=O at *
   have hph:phV O=1:=by subst hO;rfl
   have w1:W ((j:Int) - 1)=((j - 1:Nat):Int):=by rw[ya3 (by omega) (by omega)];omega
   have i1:inB ((j - 1:Nat):Int) j=true:=f7 (by omega)
   have r1:=ve0 (l:=O) (m:=j - 1) (by omega)
   have r1':=ve1 (l:=O) (m:=j - 1) (by omega)
   have rr:=ve2 ho (by omega)
   have f2:∀ {inst:Decidable ((j:Int) > 0)},@decide ((j:Int) > 0) inst=true:=decide_eq_true (by omega)
   show Nx (sel (Nat.beq (phV O) 1) (H5 Stp.next Stp.exit Stp.fail _ _) _) _ _
   rw[hph]
   show Nx (H5 Stp.next Stp.exit Stp.fail _ _) _ _
   by_cases h2:2≤j
   ·have w2:W ((j:Int) - 2)=((j - 2:Nat):Int):=by rw[ya3 (by omega) (by omega)];omega
    have i2:inB ((j - 2:Nat):Int) j=true:=f7 (by omega)
    have r2:=ve0 (l:=O) (m:=j - 2) (by omega)
    simp only[H5,m8,o0,d1,d2,d3,d4,hn,ho,w1,w2,i1,i2,Int.toNat_natCast,r1,r1',r2,rr,md8]
    rw[btD (o2 hj)]
    simp only[Nat.beq_refl,Bool.and_true,p5]
    repeat' (first | exact leaf _ _ _ _ | refine Nx.sl (fun _=>?_) (fun _=>?_))
   ·have hj1:j=1:=by omega
    subst hj1
    simp only[H5,m8,o0,d1,d2,d3,d4,hn,ho,w1,i1,Int.toNat_natCast,r1,r1',rr,md8]
    have f1:decide (((1:Nat):Int) > 1)=false:=rfl
    rw[btD (o2 hj)]
    simp only[f1,ob4,Nat.beq_refl,Bool.and_true,p5]
    repeat' (first | exact leaf _ _ _ _ | refine Nx.sl (fun _=>?_) (fun _=>?_))
 ·obtain⟨at0,out⟩:=a
  obtain⟨ho,ha1,ha2,hjN⟩:=ha
  simp only at ho ha1 ha2
  have hj':j=N:=by omega
  subst hj'
  cases out with
  | nil=>simp only[List.length_nil] at ho;omega
  | cons o os =>
   refine⟨2,?_,rfl,at0,o::os,by rw[ho];rfl,ho⟩
   show H5 Stp.next Stp.exit Stp.fail _ _=_
   simp only[H5]
   rw[bfD (by omega)]
theorem Qd4 {l:List V3} {n:Nat} {r:List (List b7)} {P:List V3→Prop} (hn:n=l.length) (hr:r=bL tV l) (h:P l):Rd (one (r1L tV)) (some (.sl 0 0 n 0,[⟨36,3,r,true,false,0⟩])) P:=by
 subst hn hr
 refine⟨_,l,rfl,?_,h⟩
 show Bool.rec (motive:=fun _=>Option (List V3)) none (some (slR tV (bL tV l) 0 l.length)) (Bool.and true (okS tV (bL tV l) 0 l.length))=_
 rw[Pb5,Pb6]
 rfl
theorem Pc9 (x:List Int):Rd (one (r1L tV)) (Ja3 x) (fun r=>4≤r.length∧r.length≤8):=by
 obtain⟨v,j,e1,a1,b1,c1,d1⟩:=ra4 5 x 0 (by omega) (by omega) (by omega) (by omega)
 have hN:W (4+v)=(((4+v).toNat:Nat):Int):=by rw[ya3 (by omega) (by omega)];omega
 obtain⟨idx,out,e2,e3⟩:=ae8 x (4+v).toNat (by omega) (by omega) j (by omega)
 unfold Ja3
 simp only[m8,o0,e1,hN,e2]
 have h4:4≤(4+v).toNat:=by omega
 have h8:(4+v).toNat≤8:=by omega
 generalize (4+v).toNat=N at *
 have s1:lsL tV N (fun k=>i9 (bL tV out) (0+k))=out:=by rw[← e3];exact Pb5 tV out
 have s2:okL tV N (fun k=>i9 (bL tV out) (0+k))=true:=by rw[← e3];exact Pb6 tV out
 have gf:Ma9 out=true:=Qd1 out (by omega)
 rw[s1,s2,gf]
 simp only[Nat.beq_refl,Bool.and_true,p5,show Nat.beq 2 1=false from rfl,ob4]
 refine Rd.sl (fun _=>?_) fun _=>Qd4 e3.symm rfl ⟨by omega,by omega⟩
 have i0:inB 0 N=true:=f7 (j:=0) (by omega)
 have i1:inB 1 N=true:=f7 (j:=1) (by omega)
 have i2:inB 2 N=true:=f7 (j:=2) (by omega)
 have i3:inB 3 N=true:=f7 (j:=3) (by omega)
 have sp:∀ (v:V3) (x1 x2 x3:Int),I7 (tV.row v) 0 [i x1,i x2,i x3]=tV.row ⟨x1,x2,x3⟩:=fun _ _ _ _=>rfl
 have rl:∀ v:V3,Nat.ble (0+3) (len (tV.row v))=true:=fun _=>rfl
 have ck:∀ v:V3,K7 [(CK.int .i64),(CK.int .i64),(CK.int .i64)] (f0 (tV.row v) 0)=true:=fun _=>rfl
 have gr:∀ (l:List V3) (k:Nat),l.length=N→k < 4→i9 (bL tV l) k=tV.row (gL tV l k):=fun l k hl hk=>V7 tV (by omega)
 have bl:∀ (l:List V3) (k:Nat),l.length=N→k < 4→Nat.blt k (len (bL tV l))=true:=fun l k hl hk=>by rw[O7,Nat.blt_eq];omega
 have ls:∀ (l:List V3) (k:Nat) (v:V3),l.length=N→(l.set k v).length=N:=fun l k v hl=>by rw[List.length_set];exact hl
 rw[gr out 0 e3 (by omega),gr out 1 e3 (by omega)]
 simp only[sp,ob5]
 rw[gr _ 2 (ls out 1 _ e3) (by omega)]
 simp only[sp,ob5]
 rw[gr _ 3 (ls _ 2 _ (ls out 1 _ e3)) (by omega)]
 simp only[sp,ob5,rl,ck,i0,i1,i2,i3,bl out 0 e3 (by omega),bl out 1 e3 (by omega),bl _ 2 (ls out 1 _ e3) (by omega),bl _ 3 (ls _ 2 _ (ls out 1 _ e3)) (by omega),Bool.and_true,p5]
 exact Qd4 (by simp only[List.length_set];omega) rfl (by simp only[List.length_set];omega)
theorem Qd5 (x:List Int):Ja4 x=true:=(Pc9 x).g
theorem Qd6 (x:List Int):4≤(ma7 x).length∧(ma7 x).length≤8:=(Pc9 x).p
end Go.Ev.Ce
namespace Go.Ev.Ce
open Go Go.Ev Go.Ev.L Go.Proofs
theorem Qd7 {l:List Pln} {P:List Pln→Prop} (h:P l):Rd (one (r1L tP)) (some (eL tP l,[])) P:=⟨_,l,rfl,zd2 tP l,h⟩
theorem Ad4 (x:List Int):Rd (one (r1L tP)) (db3 x) (fun r=>r.length≤250000):=by
 obtain⟨v1,j1,e1,a1,b1,c1,d1⟩:=ra4 4 x 0 (by omega) (by omega) (by omega) (by omega)
 obtain⟨w1,w2,w3,j2,e2,p1,p2,p3,c2,d2⟩:=Yc9 6 x j1 (by omega) (by omega) (by omega) (by omega)
 obtain⟨v3,j3,e3,a3,b3,c3,d3⟩:=ra4 6 x j2 (by omega) (by omega) (by omega) (by omega)
 obtain⟨v4,j4,e4,a4,b4,c4,d4⟩:=ra4 6 x j3 (by omega) (by omega) (by omega) (by omega)
 obtain⟨v5,j5,e5,a5,b5,c5,d5⟩:=ra4 6 x j4 (by omega) (by omega) (by omega) (by omega)
 have hin:inB (if 7 < (x.length:Int) then 7 else (x.length:Int)) (x.length+1)=true:=by
  rw[qc3]
  apply decide_eq_true
  split<;>omega
 have hok:∀ n m,okL tI n (fun k=>(fun k=>tI.row (gL tI x k)) (m+k))=true:=fun n m=>sb8 tI (f:=fun k=>gL tI x (m+k)) fun _ _=>rfl
 unfold db3
 simp only[m8,o0,K6,e1,e2,e3,e4,e5,fe6,fe7,hin,hok,ab1,Zd9,Qd5,Nat.beq_refl,Bool.and_true,p5]
 generalize hL:lsL tI _ _=L
 generalize hB:Od1 _ _=B
 have hB6:B.length=6:=by rw[← hB];rfl
 have hl6:len (bL tP B)=6:=by rw[O7,hB6]
 have ea:app [] (bL tP B)=bL tP B:=rfl
 have es:∀ q:Pln,slR tP (bL tP (B++[q])) 0 (0+6+1)=B++[q]:=fun q=>by
  have:=Pb5 tP (B++[q])
  rw[List.length_append,hB6] at this
  exact this
 have eo:∀ q:Pln,okS tP (bL tP (B++[q])) 0 (0+6+1)=true:=fun q=>by
  have:=Pb6 tP (B++[q])
  rw[List.length_append,hB6] at this
  exact this
 have gF:∀ q:Pln,sa8 (B++[q])=true:=fun q=>Xc3 (by rw[List.length_append,hB6];exact (by decide:6+1≤1000000000))
 have q1:Nat.ble ((0+6)*32) room=true:=ma1 (by omega)
 have q2:Nat.ble (((0+6)+1)*32) room=true:=ma1 (by omega)
 have q3:Nat.beq (0+6) 6=true:=rfl
 have hp:=Qd6 L
 have gf:Ea8 (ma7 L)=true:=ae5 _ (by omega)
 have pf:=ae6 (ma7 L) (by omega)
 simp only[hl6,ea,ac0,es,eo,gF,q1,q2,q3,Bool.and_self,gf,p5,show Nat.beq 6 0=false from rfl,ob4]
 have box:Rd (one (r1L tP)) (some (eL tP B,[])) (fun r=>r.length≤250000):=Qd7 (by rw[hB6];omega)
 have fcs:Rd (one (r1L tP)) (some (eL tP (jb1 (ma7 L)).1,[])) (fun r=>r.length≤250000):=Qd7 pf
 exact Rd.sl (fun _=>Rd.sl (fun _=>wb7 (by rw[List.length_append,hB6];rfl) rfl (by rw[List.length_append,hB6];exact (by decide:6+1≤250000))) fun _=>Rd.sl (fun _=>Rd.sl (fun _=>fcs) fun _=>box) fun _=>box) fun _=>Rd.sl (fun _=>Rd.sl (fun _=>fcs) fun _=>box) fun _=>box
theorem me5 (x:List Int):Rb9 x=true:=(Ad4 x).g
theorem Qd8 (x:List Int):(ca1 x).length≤250000:=(Ad4 x).p
theorem ac4 {l:List Pln} {k:Nat} (h:k < l.length):ldR tP (bL tP l) (0+k)=true:=by rw[Nat.zero_add];exact Tc1 tP h
theorem Kb2 {l:List Pln} {k:Nat} (h:k < l.length):rdR tP (bL tP l) (0+k)=gL tP l k:=by rw[Nat.zero_add];exact Tc0 tP h
theorem me6 {α:Type} (t:Ty α) (k:Nat) (l:List α):(one (r1L t)).rd (.sl 0 0 l.length 0,[⟨k,t.es,bL t l,true,false,0⟩])=some l:=by
 show Bool.rec (motive:=fun _=>Option (List α)) none (some (slR t (bL t l) 0 l.length)) (Bool.and (Nat.beq t.es t.es) (okS t (bL t l) 0 l.length))=_
 rw[Pb5,Pb6,Nat.beq_refl]
 rfl
theorem Qd9 {l:List Pln} {n:Nat} {r:List (List b7)} {P:List Pln→Prop} (hn:n≤l.length) (hr:r=bL tP l) (h:P (l.take n)):Rd (one (r1L tP)) (some (.sl 0 0 n 0,[⟨50,4,r,true,false,0⟩])) P:=by
 subst hr
 have e1:slR tP (bL tP l) 0 n=l.take n:=uc7 tP (by rw[List.length_take];omega) fun k hk=>by
  rw[Nat.zero_add,V7 tP (by omega)]
  congr 1
  simp[gL,List.getD_eq_getElem?_getD,List.getElem?_take,hk]
 have e2:okS tP (bL tP l) 0 n=true:=sb8 tP (f:=fun k=>gL tP l k) fun k hk=>by rw[Nat.zero_add,V7 tP (by omega)]
 refine⟨_,l.take n,rfl,?_,h⟩
 show Bool.rec (motive:=fun _=>Option (List Pln)) none (some (slR tP (bL tP l) 0 n)) (Bool.and true (okS tP (bL tP l) 0 n))=_
 rw[e1,e2]
 rfl
theorem Rd0 (k:Nat) (l:List Pln) (hk:k < l.length):∃ s:ma0,lp (Ja6 ⟨(k:Int)⟩) ⟨l.length,bL tP l⟩=(1,s)∧∃ out:List Pln,s=⟨out.length,bL tP out⟩∧out.length≤l.length+49:=by
 have key:=Cb8 (step:=Ja6 ⟨(k:Int)⟩) (I:=fun m s=>∃ out:List Pln,s=⟨out.length,bL tP out⟩∧k < out.length∧(out.length≤49∨out=l)∧m=49 - out.length) (Q:=fun t s=>t=1∧∃ out:List Pln,s=⟨out.length,bL tP out⟩∧out.length≤l.length+49) (fun m s ⟨out,hs,hk,ho,hm⟩=>by
  subst hs
  simp only[Ja6,Oa1,Int.toNat_natCast,ac4 hk,Kb2 hk,f7 hk,p5,ac0]
  by_cases h:(out.length:Int)≤48
  ·rw[btD h,O7,Nat.beq_refl,ma1 (by omega)]
   refine .inr ⟨_,49 - (out.length+1),by omega,rfl,out++[gL tP out k],by rw[List.length_append];rfl,by rw[List.length_append];omega,.inl (by rw[List.length_append];simp only[List.length_singleton];omega),by rw[List.length_append];rfl⟩
  ·rw[bfD h]
   exact .inl ⟨1,rfl,rfl,out,rfl,by rcases ho with ho | rfl<;>omega⟩) (49 - l.length) ⟨l.length,bL tP l⟩ (by omega) ⟨l,rfl,hk,.inr rfl,rfl⟩
 exact⟨_,Prod.ext key.1 rfl,key.2⟩
theorem me7 (p:Pln) (v:V3):Rd (one r1P) (qb5 p v) (fun _=>True):=by
 have h1:=Int.emod_nonneg v.z (show (9:Int)≠0 by omega)
 have h2:=Int.emod_lt_of_pos v.z (show (0:Int) < 9 by omega)
 unfold qb5
 simp only[lc2 _ (show (0:Int) < 9 by omega) (by omega),lc2 _ (show (0:Int) < 5 by omega) (by omega),md4 _ (show (0:Int) < 9 by omega) (by omega),md4 _ (show (0:Int) < 5 by omega) (by omega)]
 have hin:inB (v.z % 9) 9=true:=by rw[qc3];exact decide_eq_true (by omega)
 have hck:∀ (x1 x2 x3 x4 x5 x6 x7 x8 x9:Int) (k:Nat),k < 9→((Nat.ble 1 (len (i9 [[(i x1)],[(i x2)],[(i x3)],[(i x4)],[(i x5)],[(i x6)],[(i x7)],[(i x8)],[(i x9)]] (0+k))))&&(K7 [(CK.int .i64)] (i9 [[(i x1)],[(i x2)],[(i x3)],[(i x4)],[(i x5)],[(i x6)],[(i x7)],[(i x8)],[(i x9)]] (0+k))))=true:=by
  intro x1 x2 x3 x4 x5 x6 x7 x8 x9 k hk
  match k,hk with
  | 0,_=>rfl
  | 1,_=>rfl
  | 2,_=>rfl
  | 3,_=>rfl
  | 4,_=>rfl
  | 5,_=>rfl
  | 6,_=>rfl
  | 7,_=>rfl
  | 8,_=>rfl
 rw[hin,hck _ _ _ _ _ _ _ _ _ _ (by omega)]
 simp only[p5]
 exact Rd.sl (fun _=>⟨_,_,rfl,rfl,trivial⟩) fun _=>Rd.sl (fun _=>⟨_,_,rfl,rfl,trivial⟩) fun _=>Rd.sl (fun _=>⟨_,_,rfl,rfl,trivial⟩) fun _=>Rd.sl (fun _=>⟨_,_,rfl,rfl,trivial⟩) fun _=>Rd.sl (fun _=>⟨_,_,rfl,rfl,trivial⟩) fun _=>⟨_,_,rfl,rfl,trivial⟩
theorem me8 (p:Pln) (v:V3):gc9 p v=true:=(me7 p v).g
theorem Rd1 (x:List Pln) (y:V3) (hx:x.length≤1000000):Rd (one (r1L tP)) (qb7 x y) (fun r=>r.length≤x.length+50):=by
 have ea:app [] (bL tP x)=bL tP x:=rfl
 have one0:Rd (one (r1L tP)) (some (.sl 0 0 1 0,[⟨50,4,[[(i 0),(i 0),(i 0),(i 0)]],true,false,0⟩])) (fun r=>r.length≤x.length+50):=wb7 (l:=[⟨⟨0,0,0⟩,0⟩]) rfl rfl (by simp only[List.length_singleton];omega)
 unfold qb7
 simp only[ab1,ea,O7,Nat.zero_add]
 by_cases h0:x.length=0
 ·rw[show Nat.beq x.length 0=true from by rw[h0];rfl]
  exact one0
 ·have z0 : Nat.beq x.length 0 = false := by
   cases h:Nat.beq x.length 0 with
   | false=>rfl
   | true=>exact absurd (Nat.eq_of_beq_eq_true h) h0
  have zi:((x.length:Int)==0)=false:=by rw[beq_eq_false_iff_ne];omega
  have hk1:=Int.emod_nonneg y.y (show (x.length:Int)≠0 by omega)
  have hk2:=Int.emod_lt_of_pos y.y (show (0:Int) < (x.length:Int) by omega)
  rw[z0,zi,md4 y.y (show (0:Int) < (x.length:Int) by omega) (by omega),lc2 y.y (show (0:Int) < (x.length:Int) by omega) (by omega),lc2 y.x (show (0:Int) < 6 by omega) (by omega),lc2 y.z (show (0:Int) < 9 by omega) (by omega)]
  obtain⟨k,hk⟩:=Int.eq_ofNat_of_zero_le hk1
  rw[hk] at hk2 ⊢
  have hkx:k < x.length:=by omega
  have i1:inB (k:Int) x.length=true:=f7 hkx
  have i2:inB (k:Int) (x.length+1)=true:=f7 (by omega)
  have w1:W ((k:Int)+1)=((k+1:Nat):Int):=p4 hkx (by omega)
  have i3:inB ((k+1:Nat):Int) (x.length+1)=true:=f7 (by omega)
  have hrow:i9 (bL tP x) k=tP.row (gL tP x k):=V7 tP hkx
  have hb:Nat.blt k x.length=true:=by rw[Nat.blt_eq];exact hkx
  have hld:ldR tP (bL tP x) k=true:=Tc1 tP hkx
  have hrd:rdR tP (bL tP x) k=gL tP x k:=Tc0 tP hkx
  have sp:∀ (v:Pln) (x1 x2 x3 x4:Int),I7 (tP.row v) 0 [i x1,i x2,i x3,i x4]=tP.row ⟨⟨x1,x2,x3⟩,x4⟩:=fun _ _ _ _ _=>rfl
  have sp3:∀ (v:Pln) (x4:Int),I7 (tP.row v) 3 [i x4]=tP.row ⟨v.n,x4⟩:=fun _ _=>rfl
  have rl:∀ v:Pln,Nat.ble 4 (len (tP.row v))=true:=fun _=>rfl
  have rl3:∀ v:Pln,Nat.ble (3+1) (len (tP.row v))=true:=fun _=>rfl
  have ck3:∀ v:Pln,K7 [(CK.int .i64)] (f0 (tP.row v) 3)=true:=fun _=>rfl
  have b0:Nat.ble (x.length*32) room=true:=ma1 (by omega)
  have b1:Nat.ble ((x.length+1)*32) room=true:=ma1 (by omega)
  obtain⟨s,l1,out,l2,l3⟩:=Rd0 k x hkx
  have cutL:C7 (f0 (bL tP x) (k+1)) (x.length - (k+1))=bL tP (x.drop (k+1)):=by
   have hl:(bL tP x).length=x.length:=by rw[← l4,O7]
   rw[C8,C9,List.take_of_length_le (by rw[List.length_drop,hl];omega)]
   unfold bL
   rw[l6,l6,List.map_drop]
  have cutT:C7 (bL tP x) (k - 0)=bL tP (x.take k):=by
   unfold bL
   rw[C8,l6,l6,List.map_take,Nat.sub_zero]
  have cutD:∀ n,f0 (bL tP x) n=bL tP (x.drop n):=fun n=>by
   unfold bL
   rw[C9,l6,l6,List.map_drop]
  simp only[Int.toNat_natCast,i1,i2,w1,i3,hrow,hb,hld,hrd,sp,sp3,rl,rl3,ck3,b0,b1,Nat.beq_refl,Bool.and_self,Bool.and_true,p5,ob4,me8,ob5,ac0,l1,l2,cutL]
  refine Rd.sl (fun _=>wb7 (by rw[List.length_set]) rfl (by rw[List.length_set];omega)) fun _=>Rd.sl (fun _=>?_) fun _=>Rd.sl (fun _=>wb7 (by rw[List.length_set]) rfl (by rw[List.length_set];omega)) fun _ =>
   Rd.sl (fun _=>wb7 (by rw[List.length_append];rfl) rfl (by rw[List.length_append];simp only[List.length_singleton];omega)) fun _=>Rd.sl (fun _=>wb7 (by rw[List.length_set]) rfl (by rw[List.length_set];omega)) fun _ =>
   Rd.sl (fun _=>wb7 rfl rfl (by omega)) fun _=>wb7 rfl rfl (by omega)
  rw[cutT,cutD,O7,Ga1,Ga1,List.length_drop,bt (by rw[Nat.ble_eq];omega)]
  refine Qd9 ?_ rfl ?_
  ·simp only[List.length_append,List.length_take,List.length_drop];omega
  ·rw[List.length_take];simp only[List.length_append,List.length_take,List.length_drop];omega
theorem ge6 (x:List Pln) (y:V3) (hx:x.length≤1000000):qb8 x y=true:=(Rd1 x y hx).g
theorem Rd2 (x:List Pln) (y:V3) (hx:x.length≤1000000):(xa1 x y).length≤x.length+50:=(Rd1 x y hx).p
theorem Rd3 (x:List Pln):Rd (one (r1L tP)) (Ra9 x) (fun r=>r.length≤8):=by
 have hin:inB (if 8 < (x.length:Int) then 8 else (x.length:Int)) (x.length+1)=true:=by
  rw[qc3]
  apply decide_eq_true
  split<;>omega
 unfold Ra9
 rw[hin,p5]
 refine⟨_,lsL tP ((if 8 < (x.length:Int) then 8 else (x.length:Int)).toNat - 0) (fun k=>(fun k=>tP.row (gL tP x k)) (0+k)),rfl,?_,by show (lsL tP _ _).length≤8;rw[Sc9];split<;>omega⟩
 show Bool.rec (motive:=fun _=>Option (List Pln)) none (some _) (Bool.and (Nat.beq 4 4) (okL tP _ _))=_
 rw[sb8 tP (f:=fun k=>gL tP x (0+k)) fun _ _=>rfl]
 rfl
theorem ve3 (x:List Pln):Gb0 x=true:=(Rd3 x).g
theorem ve4 (x:List Pln):(jb2 x).length≤8:=(Rd3 x).p
noncomputable def Gb2 (x:List Int) (y:Q2) (z:List Pln):List (List Pln):=[ca1 x,xa1 (ca1 x) y.a,xa1 (xa1 (ca1 x) y.a) y.b,jb2 z]
theorem md9 (x:List Int) (y:Q2) (z:List Pln):Rd (one (r1L (tLs tP))) (Ba2 x y z) (fun r=>r=Gb2 x y z):=by
 have h1:=Qd8 x
 have h2:=Rd2 (ca1 x) y.a (by omega)
 unfold Ba2
 simp only[m8,K6,me5,ge6 (ca1 x) y.a (by omega),ge6 (xa1 (ca1 x) y.a) y.b (by omega),ve3,p5]
 exact⟨_,Gb2 x y z,rfl,me6 (tLs tP) 25 (Gb2 x y z),rfl⟩
theorem ae9 (x:List Int) (y:Q2) (z:List Pln):nb3 x y z=true:=(md9 x y z).g
theorem be0 (x:List Int) (y:Q2) (z:List Pln):nb2 x y z=Gb2 x y z:=(md9 x y z).p
theorem Gd6 (x:List Int) (y:Q2) (z:List Pln):∀ c∈Gb2 x y z,c.length≤1000000:=by
 have h1:=Qd8 x
 have h2:=Rd2 (ca1 x) y.a (by omega)
 have h3:=Rd2 (xa1 (ca1 x) y.a) y.b (by omega)
 have h4:=ve4 z
 intro c hc
 simp only[Gb2,List.mem_cons,List.not_mem_nil,or_false] at hc
 rcases hc with rfl | rfl | rfl | rfl<;>omega
end Go.Ev.Ce
section
namespace Go.Ev.Ce
open Go Go.Ev Go.Ev.L Go.Proofs
set_option maxRecDepth 100000
structure Oa2 where
 la3:Int
 la4:Int
 la5:Int
 eb6:Int
 k0:List Pt
noncomputable def Gb3:List (Nat×Sum):=[(102,jb0)]
theorem oc9:j7 prog G Gb3:=⟨ub3,trivial⟩
structure oa5 where
 Bd0:List Pt
 is8:Int
 k0:List Pt
 F9:Int
 G0:Int
 G1:Int
 G2:Int
structure K2 where
 is4:Int
 is9:Int
noncomputable def hc6 (p:oa5) (s:K2):St:=⟨(.unk::(.unk::((.ptr 1 0 0 0)::(.unk::((i s.is4)::(.unk::(.unk::((eL tX p.Bd0)::((i p.is8)::((i s.is9)::(ra 12 []))))))))))),[⟨0,1,[[(eL tX p.k0)]],true,false,0⟩,⟨0,4,[[(i p.F9),(i p.G0),(i p.G1),(i p.G2)]],true,false,0⟩]⟩
noncomputable def ga5 {α:Type} (k:K2→α) (e:Nat→α) (z:α) (p:oa5) (s:K2):α:=let t1:=(la9 (⟨(⟨p.F9,p.G0,p.G1⟩:V3),p.G2⟩:Pln) (gL tX p.Bd0 s.is9.toNat));(sl (decide (s.is9 < p.is8)) (sl (inB s.is9 (List.length p.Bd0)) (sl (t1==0) (k ⟨(W (s.is4+1)),(W (s.is9+1))⟩) (k ⟨s.is4,(W (s.is9+1))⟩)) z) (e 1))
noncomputable def ka9 (p:oa5) (s:K2):Stp K2:=ga5 .next .exit .fail p s
noncomputable def Ua9:Lo oa5 K2:=⟨En Gb3,1,de8,[1,1,0,1,4,4],[2,4,7,8,9],.p,[⟨((.s (.o .unk))::((.s (.o .unk))::((.s (.o (.ptr 1 0 0 0)))::((.s (.o .unk))::((.s (.o (.int .i64)))::((.s (.o .unk))::((.s (.o .unk))::((.s (.c 4 (nL tX)))::((.s (.o (.int .i64)))::((.s (.o (.int .i64)))::(ru2 12 []))))))))))),[⟨0,1,true,(some [[(.c 4 (nL tX))]])⟩,⟨0,4,true,(some [[(.o (.int .i64)),(.o (.int .i64)),(.o (.int .i64)),(.o (.int .i64))]])⟩],fun a H=>(⟨(rL tX (slT a 7)),(toI (slT a 8)),(rL tX (slT (rwT (elT H 0) 0) 0)),(toI (slT (rwT (elT H 1) 0) 0)),(toI (slT (rwT (elT H 1) 0) 1)),(toI (slT (rwT (elT H 1) 0) 2)),(toI (slT (rwT (elT H 1) 0) 3))⟩,⟨(toI (slT a 4)),(toI (slT a 9))⟩)⟩],ka9,[(some 0,fun p s=>⟨(.unk::(.unk::((.ptr 1 0 0 0)::(.unk::((i s.is4)::(.unk::(.unk::((eL tX p.Bd0)::((i p.is8)::((i s.is9)::((b (decide (s.is9 < p.is8)))::(ra 11 [])))))))))))),[⟨0,1,[[(eL tX p.k0)]],true,false,0⟩,⟨0,4,[[(i p.F9),(i p.G0),(i p.G1),(i p.G2)]],true,false,0⟩]⟩)],hc6⟩
theorem hc7:Ua9.Ok:=Lo.ok [] (by kernel_rfl) .nil rfl (.cons (fun a H=>by kernel_rfl) .nil) fun p s=>(.of @ga5 (fun F _ _ _ _ _=>by unfold ga5;(repeat' apply l7 (f:=F))<;>rfl) (by kernel_rfl))
structure qa2 where
 alt:Nat
 bs0:Bool
 k0:List Pt
noncomputable def qa3 {α:Type} (kk:qa2→α) (x:Oa2):α:=let t1:=(lp (ka9 (⟨(rt tX x.k0),(↑(List.length x.k0):Int),(rt tX x.k0),x.la3,x.la4,x.la5,x.eb6⟩:oa5)) (⟨0,0⟩:K2));(sl ((cnE tX x.k0)&&((cnE tX x.k0)&&true)) (sl (Nat.beq t1.1 1) (kk ⟨1,(decide (t1.2.is4 < 3)),(rt tX x.k0)⟩) (kk ⟨0,false,[]⟩)) (kk ⟨0,false,[]⟩))
noncomputable def ha7 (x:Oa2):qa2:=qa3 (fun r=>r) x
noncomputable def db5 (x:Oa2) (r:qa2):DT (b7×List b8):=(.ite (Nat.beq r.alt 1) (.ret ((b r.bs0),[⟨0,1,[[(eL tX r.k0)]],true,false,0⟩])) .fail)
theorem Jc6 {α β:Type} (F:α→β) (kk:qa2→α) (x:Oa2):F (qa3 kk x)=qa3 (fun r=>F (kk r)) x:=by unfold qa3;(repeat' apply l7 (f:=F))<;>rfl
noncomputable def nb4:Sum:=ab2 ⟨[(.agg [(.o (.int .i64)),(.o (.int .i64)),(.o (.int .i64)),(.o (.int .i64))]),(.s (.o (.ptr 0 0 0 0)))],[⟨0,1,true,(some [[(.c 4 (nL tX))]])⟩],fun a H=>(⟨(toI (slT (cellsOf (slT a 0)) 0)),(toI (slT (cellsOf (slT a 0)) 1)),(toI (slT (cellsOf (slT a 0)) 2)),(toI (slT (cellsOf (slT a 0)) 3)),(rL tX (slT (rwT (elT H 0) 0) 0))⟩,())⟩ (fun x=>db5 x (ha7 x))
theorem Gb4:g7 prog G 101 nb4:=O8 (enc:=fun x=>⟨[(.agg [(i x.la3),(i x.la4),(i x.la5),(i x.eb6)]),(.ptr 0 0 0 0)],[⟨0,1,[[(eL tX x.k0)]],true,false,0⟩]⟩) (fun a H=>by kernel_rfl) (bd Ae5 oc9) fun x=>ya4 (.s .p (.s .p (.s (.s .p (.b (.u Ua9.ls))) .p))) [Ua9.pr] (by kernel_rfl) (.cons hc7 .nil) (Eq.trans (b:=qa3 (fun r=>(db5 x r).run) x) (by kernel_rfl) (Jc6 (fun r=>(db5 x r).run) (fun r=>r) x).symm)
structure Q0 where
 ns0:Nat
 eh0:List (List b7)
 q7:List Pt
noncomputable def va0:List (Nat×Sum):=[(101,nb4)]
theorem Xa7:j7 prog G va0:=⟨Gb4,trivial⟩
structure F5 where
 ns0:Nat
 is7:Int
 eh0:List (List b7)
structure n8 where
 is8:Int
 q7:List Pt
noncomputable def Va0 (p:F5) (s:n8):St:=⟨((.sl 0 0 p.ns0 0)::((.fn 101 [(.ptr 1 0 0 0)])::(ra 5 ((i p.is7)::((i s.is8)::(ra 10 [])))))),[⟨50,4,p.eh0,true,false,0⟩,⟨0,1,[[(eL tX s.q7)]],true,false,0⟩]⟩
noncomputable def B1 {α:Type} (k:n8→α) (e:Nat→α) (z:α) (p:F5) (s:n8):α:=let t1:=(ha7 ⟨(rdR tP p.eh0 (0+s.is8.toNat)).n.x,(rdR tP p.eh0 (0+s.is8.toNat)).n.y,(rdR tP p.eh0 (0+s.is8.toNat)).n.z,(rdR tP p.eh0 (0+s.is8.toNat)).b,(rt tX s.q7)⟩);(sl (decide (s.is8 < p.is7)) (sl (inB s.is8 p.ns0) (sl (ldR tP p.eh0 (0+s.is8.toNat)) (sl ((cnE tX s.q7)&&true) (sl (Nat.beq t1.alt 1) (sl t1.bs0 (e 1) (k ⟨(W (s.is8+1)),t1.k0⟩)) z) z) z) z) (e 2))
noncomputable def D6 (p:F5) (s:n8):Stp n8:=B1 .next .exit .fail p s
noncomputable def Z6:Lo F5 n8:=⟨En va0,2,yd6,[1,0,1,4,4],[0,1,7,8],.p,[⟨((.s (.o (.sl 0 0 (some 0) none)))::((.fn 101 [(.o (.ptr 1 0 0 0))])::(ru2 5 ((.s (.o (.int .i64)))::((.s (.o (.int .i64)))::(ru2 10 [])))))),[⟨50,4,true,none⟩,⟨0,1,true,(some [[(.c 4 (nL tX))]])⟩],fun a H=>(⟨(slN (slT a 0)),(toI (slT a 7)),(elT H 0)⟩,⟨(toI (slT a 8)),(rL tX (slT (rwT (elT H 1) 0) 0))⟩)⟩],D6,[(none,fun p s=>let t1:=(ha7 ⟨(rdR tP p.eh0 (0+s.is8.toNat)).n.x,(rdR tP p.eh0 (0+s.is8.toNat)).n.y,(rdR tP p.eh0 (0+s.is8.toNat)).n.z,(rdR tP p.eh0 (0+s.is8.toNat)).b,(rt tX s.q7)⟩);⟨[(i s.is8)],[⟨50,4,p.eh0,true,false,0⟩,⟨0,1,[[(eL tX t1.k0)]],true,false,0⟩]⟩),(some 0,fun p s=>⟨((.sl 0 0 p.ns0 0)::((.fn 101 [(.ptr 1 0 0 0)])::(ra 5 ((i p.is7)::((i s.is8)::((b (decide (s.is8 < p.is7)))::(ra 9 []))))))),[⟨50,4,p.eh0,true,false,0⟩,⟨0,1,[[(eL tX s.q7)]],true,false,0⟩]⟩)],Va0⟩
theorem Va1:Z6.Ok:=Lo.ok [] (by kernel_rfl) .nil rfl (.cons (fun a H=>by kernel_rfl) .nil) fun p s=>(.of @B1 (fun F _ _ _ _ _=>by unfold B1;(repeat' apply l7 (f:=F))<;>rfl) (by kernel_rfl))
structure Q1 where
 alt:Nat
 is0:Int
 q7:List Pt
noncomputable def B9 {α:Type} (kk:Q1→α) (x:Q0):α:=let t1:=(lp (D6 (⟨x.ns0,(↑x.ns0:Int),x.eh0⟩:F5)) (⟨0,(rt tX x.q7)⟩:n8));let t2:=(ha7 ⟨(rdR tP x.eh0 (0+t1.2.is8.toNat)).n.x,(rdR tP x.eh0 (0+t1.2.is8.toNat)).n.y,(rdR tP x.eh0 (0+t1.2.is8.toNat)).n.z,(rdR tP x.eh0 (0+t1.2.is8.toNat)).b,(rt tX t1.2.q7)⟩);(sl ((cnE tX x.q7)&&true) (sl (Nat.beq t1.1 1) (kk ⟨1,t1.2.is8,t2.k0⟩) (sl (Nat.beq t1.1 2) (kk ⟨1,(-1),t1.2.q7⟩) (kk ⟨0,0,[]⟩))) (kk ⟨0,0,[]⟩))
noncomputable def Q3 (x:Q0):Q1:=B9 (fun r=>r) x
noncomputable def ca3 (x:Q0) (r:Q1):DT (b7×List b8):=(.ite (Nat.beq r.alt 1) (.ret ((i r.is0),[⟨50,4,x.eh0,true,false,0⟩,⟨0,1,[[(eL tX r.q7)]],true,false,0⟩])) .fail)
theorem gb2 {α β:Type} (F:α→β) (kk:Q1→α) (x:Q0):F (B9 kk x)=B9 (fun r=>F (kk r)) x:=by unfold B9;(repeat' apply l7 (f:=F))<;>rfl
noncomputable def xa7:Sum:=ab2 ⟨[(.s (.o (.sl 0 0 (some 0) none))),(.fn 101 [(.o (.ptr 1 0 0 0))])],[⟨50,4,true,none⟩,⟨0,1,true,(some [[(.c 4 (nL tX))]])⟩],fun a H=>(⟨(slN (slT a 0)),(elT H 0),(rL tX (slT (rwT (elT H 1) 0) 0))⟩,())⟩ (fun x=>ca3 x (Q3 x))
theorem db6:g7 prog G 163 xa7:=O8 (enc:=fun x=>⟨[(.sl 0 0 x.ns0 0),(.fn 101 [(.ptr 1 0 0 0)])],[⟨50,4,x.eh0,true,false,0⟩,⟨0,1,[[(eL tX x.q7)]],true,false,0⟩]⟩) (fun a H=>by kernel_rfl) (bd ke1 Xa7) fun x=>ya4 (.s .p (.s (.s .p (.b (.u Z6.ls))) .p)) [Z6.pr] (by kernel_rfl) (.cons Va1 .nil) (Eq.trans (b:=B9 (fun r=>(ca3 x r).run) x) (by kernel_rfl) (gb2 (fun r=>(ca3 x r).run) (fun r=>r) x).symm)
structure Q4 where
 ns0:Nat
 eh0:List (List b7)
 q7:List Pt
noncomputable def va1:List (Nat×Sum):=[(163,xa7),(101,nb4)]
theorem Xa8:j7 prog G va1:=⟨db6,Gb4,trivial⟩
structure F6 where
 ns0:Nat
structure o8 where
 is5:Int
 is6:Int
 eh0:List (List b7)
 q7:List Pt
noncomputable def Va2 (p:F6) (s:o8):St:=⟨((.sl 0 0 p.ns0 0)::((.fn 101 [(.ptr 1 0 0 0)])::(ra 3 ((i s.is5)::((i s.is6)::(ra 35 [])))))),[⟨50,4,s.eh0,true,false,0⟩,⟨0,1,[[(eL tX s.q7)]],true,false,0⟩]⟩
noncomputable def B3 {α:Type} (k:o8→α) (e:Nat→α) (z:α) (p:F6) (s:o8):α:=let t1:=(ha7 ⟨(rdR tP s.eh0 (0+s.is6.toNat)).n.x,(rdR tP s.eh0 (0+s.is6.toNat)).n.y,(rdR tP s.eh0 (0+s.is6.toNat)).n.z,(rdR tP s.eh0 (0+s.is6.toNat)).b,(rt tX s.q7)⟩);(sl (decide (s.is6 < (↑p.ns0:Int))) (sl (inB s.is6 p.ns0) (sl (ldR tP s.eh0 (0+s.is6.toNat)) (sl ((cnE tX s.q7)&&true) (sl (Nat.beq t1.alt 1) (sl (!t1.bs0) (sl (inB s.is5 p.ns0) (sl ((Nat.blt (0+s.is5.toNat) (len s.eh0))&&(Nat.ble (0+4) (len (i9 s.eh0 (0+s.is5.toNat))))) (k ⟨(W (s.is5+1)),(W (s.is6+1)),(setAt s.eh0 (0+s.is5.toNat) (I7 (i9 s.eh0 (0+s.is5.toNat)) 0 [(i (rdR tP s.eh0 (0+s.is6.toNat)).n.x),(i (rdR tP s.eh0 (0+s.is6.toNat)).n.y),(i (rdR tP s.eh0 (0+s.is6.toNat)).n.z),(i (rdR tP s.eh0 (0+s.is6.toNat)).b)])),t1.k0⟩) z) z) (k ⟨s.is5,(W (s.is6+1)),s.eh0,t1.k0⟩)) z) z) z) z) (e 1))
noncomputable def y7 (p:F6) (s:o8):Stp o8:=B3 .next .exit .fail p s
noncomputable def Z7:Lo F6 o8:=⟨En va1,2,qe8,[1,1,1,0,1,4,4],[0,1,5,6],.p,[⟨((.s (.o (.sl 0 0 (some 0) none)))::((.fn 101 [(.o (.ptr 1 0 0 0))])::(ru2 3 ((.s (.o (.int .i64)))::((.s (.o (.int .i64)))::(ru2 35 [])))))),[⟨50,4,true,none⟩,⟨0,1,true,(some [[(.c 4 (nL tX))]])⟩],fun a H=>(⟨(slN (slT a 0))⟩,⟨(toI (slT a 5)),(toI (slT a 6)),(elT H 0),(rL tX (slT (rwT (elT H 1) 0) 0))⟩)⟩],y7,[(some 0,fun p s=>⟨((.sl 0 0 p.ns0 0)::((.fn 101 [(.ptr 1 0 0 0)])::(ra 3 ((i s.is5)::((i s.is6)::(ra 9 ((i s.is6)::((.sl 0 0 p.ns0 0)::((i (↑p.ns0:Int))::((b (decide (s.is6 < (↑p.ns0:Int))))::(ra 22 []))))))))))),[⟨50,4,s.eh0,true,false,0⟩,⟨0,1,[[(eL tX s.q7)]],true,false,0⟩]⟩)],Va2⟩
theorem Va3:Z7.Ok:=Lo.ok [] (by kernel_rfl) .nil rfl (.cons (fun a H=>by kernel_rfl) .nil) fun p s=>(.of @B3 (fun F _ _ _ _ _=>by unfold B3;(repeat' apply l7 (f:=F))<;>rfl) (by kernel_rfl))
structure Q5 where
 alt:Nat
 ns0:Nat
 eh0:List (List b7)
 q7:List Pt
noncomputable def C0 {α:Type} (kk:Q5→α) (x:Q4):α:=let t1:=(Q3 ⟨x.ns0,x.eh0,(rt tX x.q7)⟩);let t2:=(lp (y7 (⟨x.ns0⟩:F6)) (⟨t1.is0,(W (t1.is0+1)),x.eh0,(rt tX t1.q7)⟩:o8));(sl ((cnE tX x.q7)&&true) (sl (Nat.beq t1.alt 1) (sl (t1.is0==(-1)) (kk ⟨1,x.ns0,x.eh0,t1.q7⟩) (sl ((cnE tX t1.q7)&&true) (sl (Nat.beq t2.1 1) (sl (inB t2.2.is5 (x.ns0+1)) (sl (inB t2.2.is5 (x.ns0+1)) (kk ⟨1,(t2.2.is5.toNat - 0),(app (C7 t2.2.eh0 (0+t2.2.is5.toNat)) (app (List.replicate (x.ns0 - t2.2.is5.toNat) [(i 0),(i 0),(i 0),(i 0)]) (f0 t2.2.eh0 ((0+t2.2.is5.toNat)+(x.ns0 - t2.2.is5.toNat))))),t2.2.q7⟩) (kk ⟨0,0,[],[]⟩)) (kk ⟨0,0,[],[]⟩)) (kk ⟨0,0,[],[]⟩)) (kk ⟨0,0,[],[]⟩))) (kk ⟨0,0,[],[]⟩)) (kk ⟨0,0,[],[]⟩))
noncomputable def Q6 (x:Q4):Q5:=C0 (fun r=>r) x
noncomputable def ca4 (x:Q4) (r:Q5):DT (b7×List b8):=(.ite (Nat.beq r.alt 1) (.ret ((.sl 0 0 r.ns0 0),[⟨50,4,r.eh0,true,false,0⟩,⟨0,1,[[(eL tX r.q7)]],true,false,0⟩])) .fail)
theorem gb3 {α β:Type} (F:α→β) (kk:Q5→α) (x:Q4):F (C0 kk x)=C0 (fun r=>F (kk r)) x:=by unfold C0;(repeat' apply l7 (f:=F))<;>rfl
noncomputable def xa8:Sum:=ab2 ⟨[(.s (.o (.sl 0 0 (some 0) none))),(.fn 101 [(.o (.ptr 1 0 0 0))])],[⟨50,4,true,none⟩,⟨0,1,true,(some [[(.c 4 (nL tX))]])⟩],fun a H=>(⟨(slN (slT a 0)),(elT H 0),(rL tX (slT (rwT (elT H 1) 0) 0))⟩,())⟩ (fun x=>ca4 x (Q6 x))
theorem db7:g7 prog G 99 xa8:=O8 (enc:=fun x=>⟨[(.sl 0 0 x.ns0 0),(.fn 101 [(.ptr 1 0 0 0)])],[⟨50,4,x.eh0,true,false,0⟩,⟨0,1,[[(eL tX x.q7)]],true,false,0⟩]⟩) (fun a H=>by kernel_rfl) (bd b99 Xa8) fun x=>ya4 (.s .p (.s .p (.s .p (.s (.s .p (.b (.u Z7.ls))) .p)))) [Z7.pr] (by kernel_rfl) (.cons Va3 .nil) (Eq.trans (b:=C0 (fun r=>(ca4 x r).run) x) (by kernel_rfl) (gb3 (fun r=>(ca4 x r).run) (fun r=>r) x).symm)
structure Z8 where
 ns0:Nat
 eh0:List (List b7)
noncomputable def la0:List (Nat×Sum):=[]
theorem nb5:j7 prog G la0:=trivial
structure z8 where
 ns0:Nat
 os4:Nat
 ns4:Nat
structure o4 where
 is3:Int
 is5:Int
 eh0:List (List b7)
noncomputable def gb4 (p:z8) (s:o4):St:=⟨((.sl 0 0 p.ns0 0)::(.unk::(.unk::((i s.is3)::((.sl 0 p.os4 p.ns4 0)::((i s.is5)::(ra 55 []))))))),[⟨50,4,s.eh0,true,false,0⟩]⟩
noncomputable def G4 {α:Type} (k:o4→α) (e:Nat→α) (z:α) (p:z8) (s:o4):α:=(sl (decide (s.is5 < (↑p.ns4:Int))) (sl (inB s.is5 p.ns4) (sl (ldR tP s.eh0 (p.os4+s.is5.toNat)) (sl (inB (W (s.is5 - 1)) p.ns4) (sl (ldR tP s.eh0 (p.os4+(W (s.is5 - 1)).toNat)) (sl (!(((rdR tP s.eh0 (p.os4+s.is5.toNat)).n.x==(rdR tP s.eh0 (p.os4+(W (s.is5 - 1)).toNat)).n.x)&&(((rdR tP s.eh0 (p.os4+s.is5.toNat)).n.y==(rdR tP s.eh0 (p.os4+(W (s.is5 - 1)).toNat)).n.y)&&(((rdR tP s.eh0 (p.os4+s.is5.toNat)).n.z==(rdR tP s.eh0 (p.os4+(W (s.is5 - 1)).toNat)).n.z)&&(((rdR tP s.eh0 (p.os4+s.is5.toNat)).b==(rdR tP s.eh0 (p.os4+(W (s.is5 - 1)).toNat)).b)&&true))))) (sl (inB s.is5 p.ns4) (sl (ldR tP s.eh0 (p.os4+s.is5.toNat)) (sl (inB s.is3 p.ns0) (sl ((Nat.blt (0+s.is3.toNat) (len s.eh0))&&(Nat.ble (0+4) (len (i9 s.eh0 (0+s.is3.toNat))))) (k ⟨(W (s.is3+1)),(W (s.is5+1)),(setAt s.eh0 (0+s.is3.toNat) (I7 (i9 s.eh0 (0+s.is3.toNat)) 0 [(i (rdR tP s.eh0 (p.os4+s.is5.toNat)).n.x),(i (rdR tP s.eh0 (p.os4+s.is5.toNat)).n.y),(i (rdR tP s.eh0 (p.os4+s.is5.toNat)).n.z),(i (rdR tP s.eh0 (p.os4+s.is5.toNat)).b)]))⟩) z) z) z) z) (k ⟨s.is3,(W (s.is5+1)),s.eh0⟩)) z) z) z) z) (e 1))
noncomputable def o7 (p:z8) (s:o4):Stp o4:=G4 .next .exit .fail p s
noncomputable def ha8:Lo z8 o4:=⟨En la0,1,Nd0,[1,1,0,1,4,4,1,0,4,1,2,1,0,1,4,4],[0,3,4,5],.p,[⟨((.s (.o (.sl 0 0 (some 0) none)))::((.s (.o .unk))::((.s (.o .unk))::((.s (.o (.int .i64)))::((.s (.o (.sl 0 0 none none)))::((.s (.o (.int .i64)))::(ru2 55 []))))))),[⟨50,4,true,none⟩],fun a H=>(⟨(slN (slT a 0)),(slO (slT a 4)),(slN (slT a 4))⟩,⟨(toI (slT a 3)),(toI (slT a 5)),(elT H 0)⟩)⟩],o7,[(some 2,fun p s=>⟨((.sl 0 0 p.ns0 0)::(.unk::(.unk::((i s.is3)::((.sl 0 p.os4 p.ns4 0)::((i s.is5)::(ra 23 ((i s.is5)::((.sl 0 p.os4 p.ns4 0)::((i (↑p.ns4:Int))::((b (decide (s.is5 < (↑p.ns4:Int))))::(ra 28 [])))))))))))),[⟨50,4,s.eh0,true,false,0⟩]⟩)],gb4⟩
theorem gb5:ha8.Ok:=Lo.ok [] (by kernel_rfl) .nil rfl (.cons (fun a H=>by kernel_rfl) .nil) fun p s=>(.of @G4 (fun F _ _ _ _ _=>by unfold G4;(repeat' apply l7 (f:=F))<;>rfl) (by kernel_rfl))
structure J0 where
 ns0:Nat
 eh0:List (List b7)
structure p0 where
 is3:Int
noncomputable def gb6 (p:J0) (s:p0):St:=⟨((.sl 0 0 p.ns0 0)::(.unk::(.unk::((i s.is3)::(ra 57 []))))),[⟨50,4,p.eh0,true,false,0⟩]⟩
noncomputable def G5 {α:Type} (k:p0→α) (e:Nat→α) (z:α) (p:J0) (s:p0):α:=let t1:=(lp (o7 (⟨p.ns0,(0+s.is3.toNat),(p.ns0 - s.is3.toNat)⟩:z8)) (⟨s.is3,1,p.eh0⟩:o4));(sl (decide (s.is3 < (↑p.ns0:Int))) (sl (inB s.is3 p.ns0) (sl (ldR tP p.eh0 (0+s.is3.toNat)) (sl (inB (W (s.is3 - 1)) p.ns0) (sl (ldR tP p.eh0 (0+(W (s.is3 - 1)).toNat)) (sl (((rdR tP p.eh0 (0+s.is3.toNat)).n.x==(rdR tP p.eh0 (0+(W (s.is3 - 1)).toNat)).n.x)&&(((rdR tP p.eh0 (0+s.is3.toNat)).n.y==(rdR tP p.eh0 (0+(W (s.is3 - 1)).toNat)).n.y)&&(((rdR tP p.eh0 (0+s.is3.toNat)).n.z==(rdR tP p.eh0 (0+(W (s.is3 - 1)).toNat)).n.z)&&(((rdR tP p.eh0 (0+s.is3.toNat)).b==(rdR tP p.eh0 (0+(W (s.is3 - 1)).toNat)).b)&&true)))) (sl (inB s.is3 (p.ns0+1)) (sl (Nat.beq t1.1 1) (sl (inB t1.2.is3 (p.ns0+1)) (sl (inB t1.2.is3 (p.ns0+1)) (e 1) z) z) z) z) (k ⟨(W (s.is3+1))⟩)) z) z) z) z) (e 2))
noncomputable def H9 (p:J0) (s:p0):Stp p0:=G5 .next .exit .fail p s
noncomputable def ha9:Lo J0 p0:=⟨En la0,1,Nd0,[1,1,0,1,4,4],[0,3],(.s .p (.s (.b (.s .p (.c (.s .p (.s (.s .p (.b (.u ha8.ls))) .p)) .p))) .p)),[⟨((.s (.o (.sl 0 0 (some 0) none)))::((.s (.o .unk))::((.s (.o .unk))::((.s (.o (.int .i64)))::(ru2 57 []))))),[⟨50,4,true,none⟩],fun a H=>(⟨(slN (slT a 0)),(elT H 0)⟩,⟨(toI (slT a 3))⟩)⟩],H9,[(none,fun p s=>let t1:=(lp (o7 (⟨p.ns0,(0+s.is3.toNat),(p.ns0 - s.is3.toNat)⟩:z8)) (⟨s.is3,1,p.eh0⟩:o4));⟨[(.sl 0 0 (t1.2.is3.toNat - 0) 0)],[⟨50,4,(app (C7 t1.2.eh0 (0+t1.2.is3.toNat)) (app (List.replicate (p.ns0 - t1.2.is3.toNat) [(i 0),(i 0),(i 0),(i 0)]) (f0 t1.2.eh0 ((0+t1.2.is3.toNat)+(p.ns0 - t1.2.is3.toNat))))),true,false,0⟩]⟩),(some 0,fun p s=>⟨((.sl 0 0 p.ns0 0)::(.unk::(.unk::((i s.is3)::(ra 6 ((i s.is3)::((.sl 0 0 p.ns0 0)::((i (↑p.ns0:Int))::((b (decide (s.is3 < (↑p.ns0:Int))))::(ra 47 [])))))))))),[⟨50,4,p.eh0,true,false,0⟩]⟩)],gb6⟩
theorem gb7:ha9.Ok:=Lo.ok [ha8.pr] (by kernel_rfl) (.cons gb5 .nil) rfl (.cons (fun a H=>by kernel_rfl) .nil) fun p s=>(.of @G5 (fun F _ _ _ _ _=>by unfold G5;(repeat' apply l7 (f:=F))<;>rfl) (by kernel_rfl))
structure Z9 where
 alt:Nat
 ns0:Nat
 eh0:List (List b7)
noncomputable def H6 {α:Type} (kk:Z9→α) (x:Z8):α:=let t1:=(lp (H9 (⟨x.ns0,x.eh0⟩:J0)) (⟨1⟩:p0));let t2:=(lp (o7 (⟨x.ns0,(0+t1.2.is3.toNat),(x.ns0 - t1.2.is3.toNat)⟩:z8)) (⟨t1.2.is3,1,x.eh0⟩:o4));(sl (decide ((↑x.ns0:Int) < 2)) (kk ⟨1,x.ns0,x.eh0⟩) (sl (Nat.beq t1.1 1) (kk ⟨1,(t2.2.is3.toNat - 0),(app (C7 t2.2.eh0 (0+t2.2.is3.toNat)) (app (List.replicate (x.ns0 - t2.2.is3.toNat) [(i 0),(i 0),(i 0),(i 0)]) (f0 t2.2.eh0 ((0+t2.2.is3.toNat)+(x.ns0 - t2.2.is3.toNat)))))⟩) (sl (Nat.beq t1.1 2) (kk ⟨1,x.ns0,x.eh0⟩) (kk ⟨0,0,[]⟩))))
noncomputable def aa0 (x:Z8):Z9:=H6 (fun r=>r) x
noncomputable def la1 (x:Z8) (r:Z9):DT (b7×List b8):=(.ite (Nat.beq r.alt 1) (.ret ((.sl 0 0 r.ns0 0),[⟨50,4,r.eh0,true,false,0⟩])) .fail)
theorem wb8 {α β:Type} (F:α→β) (kk:Z9→α) (x:Z8):F (H6 kk x)=H6 (fun r=>F (kk r)) x:=by unfold H6;(repeat' apply l7 (f:=F))<;>rfl
noncomputable def Ja7:Sum:=ab2 ⟨[(.s (.o (.sl 0 0 (some 0) none)))],[⟨50,4,true,none⟩],fun a H=>(⟨(slN (slT a 0)),(elT H 0)⟩,())⟩ (fun x=>la1 x (aa0 x))
theorem rb1:g7 prog G 105 Ja7:=O8 (enc:=fun x=>⟨[(.sl 0 0 x.ns0 0)],[⟨50,4,x.eh0,true,false,0⟩]⟩) (fun a H=>by kernel_rfl) (bd Ae8 nb5) fun x=>ya4 (.s .p (.s .p (.s (.s .p (.b (.u ha9.ls))) .p))) [ha9.pr] (by kernel_rfl) (.cons gb7 .nil) (Eq.trans (b:=H6 (fun r=>(la1 x r).run) x) (by kernel_rfl) (wb8 (fun r=>(la1 x r).run) (fun r=>r) x).symm)
noncomputable def Cc3:List (Nat×Sum):=[]
theorem pc0:j7 prog G Cc3:=trivial
noncomputable def Ba3 (x:Int) (y:Int):Option (b7×List b8):=(sl (decide (x < y)) (some ((i (-1)),[])) (sl (decide (x > y)) (some ((i 1),[])) (some ((i 0),[]))))
noncomputable def ia0 (x:Int) (y:Int):Int:=I5 (one r1I) (Ba3 x y)
noncomputable def ia1 (x:Int) (y:Int):Bool:=okO (one r1I) (Ba3 x y)
noncomputable def Nb7:Sum:=ja0 cI cI (fun x y=>.guard (ia1 x y) (.ret ((one r1I).enc (ia0 x y),[])))
theorem Cc4:g7 prog G 179 Nb7:=eb7 (bd De7 pc0) (one r1I) (o:=Ba3) fun x y=>r4 (by kernel_rfl)
noncomputable def hc8:List (Nat×Sum):=[(179,Nb7)]
theorem ac5:j7 prog G hc8:=⟨Cc4,trivial⟩
noncomputable def oa6 (x:Pln) (y:Pln):Option (b7×List b8):=let t1:=(ia0 x.n.x y.n.x);let t2:=(ia0 x.n.y y.n.y);let t3:=(ia0 x.n.z y.n.z);let t4:=(ia0 x.b y.b);(sl (ia1 x.n.x y.n.x) (sl (t1==0) (sl (ia1 x.n.y y.n.y) (sl (t2==0) (sl (ia1 x.n.z y.n.z) (sl (t3==0) (sl (ia1 x.b y.b) (sl (t4==0) (some ((i t4),[])) (some ((i t4),[]))) none) (some ((i t3),[]))) none) (some ((i t2),[]))) none) (some ((i t1),[]))) none)
noncomputable def Ca5 (x:Pln) (y:Pln):Int:=I5 (one r1I) (oa6 x y)
noncomputable def Ca6 (x:Pln) (y:Pln):Bool:=okO (one r1I) (oa6 x y)
noncomputable def Va4:Sum:=ja0 (R2 tP) (R2 tP) (fun x y=>.guard (Ca6 x y) (.ret ((one r1I).enc (Ca5 x y),[])))
theorem hc9:g7 prog G 104 Va4:=eb7 (bd Ae7 ac5) (one r1I) (o:=oa6) fun x y=>r4 (by kernel_rfl)
noncomputable def nd0:List (Nat×Sum):=[(164,cb1)]
theorem Zc1:j7 prog G nd0:=⟨yb0,trivial⟩
noncomputable def db8 (x:V3):Option (b7×List b8):=let t1:=(ka1 24 [x.x,x.y,x.z]);(sl (ka2 24 [x.x,x.y,x.z]) (some ((b t1),[])) none)
noncomputable def wb9 (x:V3):Bool:=I5 (one r1B) (db8 x)
noncomputable def xb0 (x:V3):Bool:=okO (one r1B) (db8 x)
noncomputable def Cc5:Sum:=da3 (R2 tV) (fun x=>.guard (xb0 x) (.ret ((one r1B).enc (wb9 x),[])))
theorem nd1:g7 prog G 107 Cc5:=wa2 (bd Ae9 Zc1) (one r1B) (o:=db8) fun x=>r4 (by kernel_rfl)
noncomputable def nd2:List (Nat×Sum):=[(87,wa8),(107,Cc5),(108,Na7)]
theorem Zc2:j7 prog G nd2:=⟨Aa1,nd1,cb0,trivial⟩
noncomputable def db9 (x:List Pln) (y:V3):Option (b7×List b8):=let t1:=(Y8 [(rt tP x)]);let t2:=(wb9 y);let t3:=(S7 (rt tP x) (⟨y.x,y.y,y.z,1⟩:Pt));(sl ((okE tP x)&&true) (sl (Y9 [(rt tP x)]) (sl t1 (sl (xb0 y) (sl t2 (sl (okE tP x) (sl (S8 (rt tP x) (⟨y.x,y.y,y.z,1⟩:Pt)) (some ((b t3),[])) none) none) (some ((b false),[]))) none) (some ((b false),[]))) none) none)
noncomputable def eb0 (x:List Pln) (y:V3):Bool:=I5 (one r1B) (db9 x y)
noncomputable def eb1 (x:List Pln) (y:V3):Bool:=okO (one r1B) (db9 x y)
noncomputable def Cc6:Sum:=ja0 (V2 tP) (R2 tV) (fun x y=>.guard (eb1 x y) (.ret ((one r1B).enc (eb0 x y),[])))
theorem nd3:g7 prog G 28 Cc6:=eb7 (bd b28 Zc2) (one r1B) (o:=db9) fun x y=>r4 (by kernel_rfl)
noncomputable def Jc7:List (Nat×Sum):=[(87,wa8),(88,Jb6),(92,Da3)]
theorem Cc7:j7 prog G Jc7:=⟨Aa1,Rb1,Va9,trivial⟩
noncomputable def Ja8 (x:List Pln) (y:List Pln):Option (b7×List b8):=let t1:=(Y8 [(rt tP x),(rt tP y)]);let t2:=(Ma3 [(rt tP x),(rt tP y)]);let t3:=(ba9 (rt tP t2));(sl ((okE tP x)&&((okE tP y)&&true)) (sl (Y9 [(rt tP x),(rt tP y)]) (sl (!t1) (some ((b true),[])) (sl ((okE tP x)&&((okE tP y)&&true)) (sl (Ma4 [(rt tP x),(rt tP y)]) (sl (okE tP t2) (sl (ca0 (rt tP t2)) (some ((b (!t3)),[])) none) none) none) none)) none) none)
noncomputable def Ja9 (x:List Pln) (y:List Pln):Bool:=I5 (one r1B) (Ja8 x y)
noncomputable def Ka0 (x:List Pln) (y:List Pln):Bool:=okO (one r1B) (Ja8 x y)
noncomputable def ac6:Sum:=ja0 (V2 tP) (V2 tP) (fun x y=>.guard (Ka0 x y) (.ret ((one r1B).enc (Ja9 x y),[])))
theorem Jc8:g7 prog G 31 ac6:=eb7 (bd b31 Cc7) (one r1B) (o:=Ja8) fun x y=>r4 (by kernel_rfl)
structure Ca7 where
 la3:Int
 la4:Int
 la5:Int
 eb6:Int
 d7:List Pln
noncomputable def ic0:List (Nat×Sum):=[(108,Na7)]
theorem ac7:j7 prog G ic0:=⟨cb0,trivial⟩
structure oa7 where
 alt:Nat
 bs0:Bool
noncomputable def ea4 {α:Type} (kk:oa7→α) (x:Ca7):α:=let t1:=(S7 (rt tP x.d7) (⟨x.la3,x.la4,x.la5,x.eb6⟩:Pt));(sl (okE tP x.d7) (sl (S8 (rt tP x.d7) (⟨x.la3,x.la4,x.la5,x.eb6⟩:Pt)) (kk ⟨1,(!t1)⟩) (kk ⟨0,false⟩)) (kk ⟨0,false⟩))
noncomputable def Ca8 (x:Ca7):oa7:=ea4 (fun r=>r) x
noncomputable def Na1 (x:Ca7) (r:oa7):DT (b7×List b8):=(.ite (Nat.beq r.alt 1) (.ret ((b r.bs0),[⟨0,1,[[(eL tP x.d7)]],true,false,0⟩])) .fail)
theorem pc1 {α β:Type} (F:α→β) (kk:oa7→α) (x:Ca7):F (ea4 kk x)=ea4 (fun r=>F (kk r)) x:=by unfold ea4;(repeat' apply l7 (f:=F))<;>rfl
noncomputable def yb3:Sum:=ab2 ⟨[(.agg [(.o (.int .i64)),(.o (.int .i64)),(.o (.int .i64)),(.o (.int .i64))]),(.s (.o (.ptr 0 0 0 0)))],[⟨0,1,true,(some [[(.c 4 (nL tP))]])⟩],fun a H=>(⟨(toI (slT (cellsOf (slT a 0)) 0)),(toI (slT (cellsOf (slT a 0)) 1)),(toI (slT (cellsOf (slT a 0)) 2)),(toI (slT (cellsOf (slT a 0)) 3)),(rL tP (slT (rwT (elT H 0) 0) 0))⟩,())⟩ (fun x=>Na1 x (Ca8 x))
theorem ic1:g7 prog G 114 yb3:=O8 (enc:=fun x=>⟨[(.agg [(i x.la3),(i x.la4),(i x.la5),(i x.eb6)]),(.ptr 0 0 0 0)],[⟨0,1,[[(eL tP x.d7)]],true,false,0⟩]⟩) (fun a H=>by kernel_rfl) (bd Be4 ac7) fun x=>r4 (Eq.trans (b:=ea4 (fun r=>(Na1 x r).run) x) (by kernel_rfl) (pc1 (fun r=>(Na1 x r).run) (fun r=>r) x).symm)
structure Q7 where
 A3:List Pt
 d7:List Pln
noncomputable def va2:List (Nat×Sum):=[(114,yb3)]
theorem Xa9:j7 prog G va2:=⟨ic1,trivial⟩
structure F7 where
 A3:List Pt
 is7:Int
structure n9 where
 is8:Int
 d7:List Pln
noncomputable def Va5 (p:F7) (s:n9):St:=⟨((eL tX p.A3)::((.fn 114 [(.ptr 0 0 0 0)])::(ra 5 ((i p.is7)::((i s.is8)::(ra 10 [])))))),[⟨0,1,[[(eL tP s.d7)]],true,false,0⟩]⟩
noncomputable def B4 {α:Type} (k:n9→α) (e:Nat→α) (z:α) (p:F7) (s:n9):α:=let t1:=(Ca8 ⟨(gL tX p.A3 s.is8.toNat).px,(gL tX p.A3 s.is8.toNat).py,(gL tX p.A3 s.is8.toNat).pz,(gL tX p.A3 s.is8.toNat).pw,(rt tP s.d7)⟩);(sl (decide (s.is8 < p.is7)) (sl (inB s.is8 (List.length p.A3)) (sl ((cnE tP s.d7)&&true) (sl (Nat.beq t1.alt 1) (sl t1.bs0 (e 1) (k ⟨(W (s.is8+1)),(rt tP s.d7)⟩)) z) z) z) (e 2))
noncomputable def D7 (p:F7) (s:n9):Stp n9:=B4 .next .exit .fail p s
noncomputable def aa1:Lo F7 n9:=⟨En va2,1,Nd3,[1,0,1,4,4],[0,1,7,8],.p,[⟨((.s (.c 4 (nL tX)))::((.fn 114 [(.o (.ptr 0 0 0 0))])::(ru2 5 ((.s (.o (.int .i64)))::((.s (.o (.int .i64)))::(ru2 10 [])))))),[⟨0,1,true,(some [[(.c 4 (nL tP))]])⟩],fun a H=>(⟨(rL tX (slT a 0)),(toI (slT a 7))⟩,⟨(toI (slT a 8)),(rL tP (slT (rwT (elT H 0) 0) 0))⟩)⟩],D7,[(none,fun p s=>⟨[(i s.is8)],[⟨0,1,[[(eL tP (rt tP s.d7))]],true,false,0⟩]⟩),(some 0,fun p s=>⟨((eL tX p.A3)::((.fn 114 [(.ptr 0 0 0 0)])::(ra 5 ((i p.is7)::((i s.is8)::((b (decide (s.is8 < p.is7)))::(ra 9 []))))))),[⟨0,1,[[(eL tP s.d7)]],true,false,0⟩]⟩)],Va5⟩
theorem Va6:aa1.Ok:=Lo.ok [] (by kernel_rfl) .nil rfl (.cons (fun a H=>by kernel_rfl) .nil) fun p s=>(.of @B4 (fun F _ _ _ _ _=>by unfold B4;(repeat' apply l7 (f:=F))<;>rfl) (by kernel_rfl))
structure Q8 where
 alt:Nat
 is0:Int
 d7:List Pln
noncomputable def C3 {α:Type} (kk:Q8→α) (x:Q7):α:=let t1:=(lp (D7 (⟨(rt tX x.A3),(↑(List.length x.A3):Int)⟩:F7)) (⟨0,(rt tP x.d7)⟩:n9));(sl ((cnE tX x.A3)&&((cnE tP x.d7)&&true)) (sl (Nat.beq t1.1 1) (kk ⟨1,t1.2.is8,(rt tP t1.2.d7)⟩) (sl (Nat.beq t1.1 2) (kk ⟨1,(-1),t1.2.d7⟩) (kk ⟨0,0,[]⟩))) (kk ⟨0,0,[]⟩))
noncomputable def da8 (x:Q7):Q8:=C3 (fun r=>r) x
noncomputable def ca5 (x:Q7) (r:Q8):DT (b7×List b8):=(.ite (Nat.beq r.alt 1) (.ret ((i r.is0),[⟨0,1,[[(eL tP r.d7)]],true,false,0⟩])) .fail)
theorem gb8 {α β:Type} (F:α→β) (kk:Q8→α) (x:Q7):F (C3 kk x)=C3 (fun r=>F (kk r)) x:=by unfold C3;(repeat' apply l7 (f:=F))<;>rfl
noncomputable def xa9:Sum:=ab2 ⟨[(.s (.c 4 (nL tX))),(.fn 114 [(.o (.ptr 0 0 0 0))])],[⟨0,1,true,(some [[(.c 4 (nL tP))]])⟩],fun a H=>(⟨(rL tX (slT a 0)),(rL tP (slT (rwT (elT H 0) 0) 0))⟩,())⟩ (fun x=>ca5 x (da8 x))
theorem eb2:g7 prog G 185 xa9:=O8 (enc:=fun x=>⟨[(eL tX x.A3),(.fn 114 [(.ptr 0 0 0 0)])],[⟨0,1,[[(eL tP x.d7)]],true,false,0⟩]⟩) (fun a H=>by kernel_rfl) (bd ue2 Xa9) fun x=>ya4 (.s .p (.s (.s .p (.b (.u aa1.ls))) .p)) [aa1.pr] (by kernel_rfl) (.cons Va6 .nil) (Eq.trans (b:=C3 (fun r=>(ca5 x r).run) x) (by kernel_rfl) (gb8 (fun r=>(ca5 x r).run) (fun r=>r) x).symm)
structure K3 where
 A3:List Pt
 d7:List Pln
noncomputable def Sa1:List (Nat×Sum):=[(185,xa9)]
theorem Na2:j7 prog G Sa1:=⟨eb2,trivial⟩
structure K4 where
 alt:Nat
 bs0:Bool
 d7:List Pln
noncomputable def y8 {α:Type} (kk:K4→α) (x:K3):α:=let t1:=(da8 ⟨(rt tX x.A3),(rt tP x.d7)⟩);(sl ((cnE tX x.A3)&&((cnE tP x.d7)&&true)) (sl (Nat.beq t1.alt 1) (kk ⟨1,(decide (t1.is0≥0)),t1.d7⟩) (kk ⟨0,false,[]⟩)) (kk ⟨0,false,[]⟩))
noncomputable def X6 (x:K3):K4:=y8 (fun r=>r) x
noncomputable def V1 (x:K3) (r:K4):DT (b7×List b8):=(.ite (Nat.beq r.alt 1) (.ret ((b r.bs0),[⟨0,1,[[(eL tP r.d7)]],true,false,0⟩])) .fail)
theorem Va7 {α β:Type} (F:α→β) (kk:K4→α) (x:K3):F (y8 kk x)=y8 (fun r=>F (kk r)) x:=by unfold y8;(repeat' apply l7 (f:=F))<;>rfl
noncomputable def oa8:Sum:=ab2 ⟨[(.s (.c 4 (nL tX))),(.fn 114 [(.o (.ptr 0 0 0 0))])],[⟨0,1,true,(some [[(.c 4 (nL tP))]])⟩],fun a H=>(⟨(rL tX (slT a 0)),(rL tP (slT (rwT (elT H 0) 0) 0))⟩,())⟩ (fun x=>V1 x (X6 x))
theorem Sa2:g7 prog G 113 oa8:=O8 (enc:=fun x=>⟨[(eL tX x.A3),(.fn 114 [(.ptr 0 0 0 0)])],[⟨0,1,[[(eL tP x.d7)]],true,false,0⟩]⟩) (fun a H=>by kernel_rfl) (bd ue1 Na2) fun x=>r4 (Eq.trans (b:=y8 (fun r=>(V1 x r).run) x) (by kernel_rfl) (Va7 (fun r=>(V1 x r).run) (fun r=>r) x).symm)
noncomputable def Cc8:List (Nat×Sum):=[(20,Ea6),(87,wa8),(18,pa5),(113,oa8)]
theorem pc2:j7 prog G Cc8:=⟨Ia3,Aa1,ta8,Sa2,trivial⟩
noncomputable def Ba4 (x:List Pln) (y:List Pln):Option (b7×List b8):=let t1:=(fa6 (rt tP x));let t2:=(Y8 [(rt tP y)]);let t3:=(T1 (rt tP x));let t4:=(X6 ⟨(rt tX t3),(rt tP y)⟩);(sl (okE tP x) (sl (fa7 (rt tP x)) (sl t1 (sl ((okE tP y)&&true) (sl (Y9 [(rt tP y)]) (sl t2 (sl (okE tP x) (sl (T2 (rt tP x)) (sl ((cnE tX t3)&&((cnE tP y)&&true)) (sl (Nat.beq t4.alt 1) (some ((b (!t4.bs0)),[])) none) none) none) none) (some ((b false),[]))) none) none) (some ((b false),[]))) none) none)
noncomputable def Ba5 (x:List Pln) (y:List Pln):Bool:=I5 (one r1B) (Ba4 x y)
noncomputable def Ba6 (x:List Pln) (y:List Pln):Bool:=okO (one r1B) (Ba4 x y)
noncomputable def Nb8:Sum:=ja0 (V2 tP) (V2 tP) (fun x y=>.guard (Ba6 x y) (.ret ((one r1B).enc (Ba5 x y),[])))
theorem Cc9:g7 prog G 33 Nb8:=eb7 (bd b33 pc2) (one r1B) (o:=Ba4) fun x y=>r4 (by kernel_rfl)
noncomputable def nd4:List (Nat×Sum):=[]
theorem Zc3:j7 prog G nd4:=trivial
structure xb1 where
 d9:Int
 M2:Int
 M3:Int
 M4:Int
 M5:Int
 M6:Int
noncomputable def eb3 {α:Type} (kk:xb1→α) (x:V3) (y:V3):α:=(kk ⟨y.x,(W (0 - x.x)),y.y,(W (0 - x.y)),y.z,(W (0 - x.z))⟩)
noncomputable def Dc0 (x:V3) (y:V3):xb1:=eb3 (fun r=>r) x y
noncomputable def Gb5 (r:xb1):DT (b7×List b8):=.ret ((.sl 0 0 6 0),[⟨50,4,[[(i 1),(i 0),(i 0),(i r.d9)],[(i (-1)),(i 0),(i 0),(i r.M2)],[(i 0),(i 1),(i 0),(i r.M3)],[(i 0),(i (-1)),(i 0),(i r.M4)],[(i 0),(i 0),(i 1),(i r.M5)],[(i 0),(i 0),(i (-1)),(i r.M6)]],true,false,0⟩])
theorem vd1 {α β:Type} (F:α→β) (kk:xb1→α) (x:V3) (y:V3):F (eb3 kk x y)=eb3 (fun r=>F (kk r)) x y:=by unfold eb3;(repeat' apply l7 (f:=F))<;>rfl
noncomputable def Dc1:Sum:=ja0 (R2 tV) (R2 tV) (fun x y=>Gb5 (Dc0 x y))
theorem nd5:g7 prog G 111 Dc1:=wa1 (bd ue0 Zc3) fun x y=>r4 (Eq.trans (b:=eb3 (fun r=>(Gb5 r).run) x y) (by kernel_rfl) (vd1 (fun r=>(Gb5 r).run) (fun r=>r) x y).symm)
noncomputable def Jc9:List (Nat×Sum):=[(111,Dc1)]
theorem Dc2:j7 prog G Jc9:=⟨nd5,trivial⟩
structure Ya0 where
 d9:Int
 M2:Int
 M3:Int
 M4:Int
 M5:Int
 M6:Int
noncomputable def Ka1 {α:Type} (kk:Ya0→α)  : α:=let t1:=(Dc0 (⟨0,0,0⟩:V3) (⟨1,1,1⟩:V3));(kk ⟨t1.d9,t1.M2,t1.M3,t1.M4,t1.M5,t1.M6⟩)
noncomputable def xb2  : Ya0:=Ka1 (fun r=>r)
noncomputable def nb6 (r:Ya0):DT (b7×List b8):=.ret ((.sl 0 0 6 0),[⟨50,4,[[(i 1),(i 0),(i 0),(i r.d9)],[(i (-1)),(i 0),(i 0),(i r.M2)],[(i 0),(i 1),(i 0),(i r.M3)],[(i 0),(i (-1)),(i 0),(i r.M4)],[(i 0),(i 0),(i 1),(i r.M5)],[(i 0),(i 0),(i (-1)),(i r.M6)]],true,false,0⟩])
theorem Zc4 {α β:Type} (F:α→β) (kk:Ya0→α)  : F (Ka1 kk )=Ka1 (fun r=>F (kk r))  :=by unfold Ka1;(repeat' apply l7 (f:=F))<;>rfl
noncomputable def ac8:Sum:=dd8  (nb6 (xb2 ))
theorem Kc0:g7 prog G 81 ac8:=xd0 (bd b81 Dc2) (r4 (Eq.trans (b:=Ka1 (fun r=>(nb6 r).run) ) (by kernel_rfl) (Zc4 (fun r=>(nb6 r).run) (fun r=>r) ).symm))
end Go.Ev.Ce
end
