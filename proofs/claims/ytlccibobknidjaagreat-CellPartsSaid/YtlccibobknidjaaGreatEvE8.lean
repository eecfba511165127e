/- Own work: a part of the proof. -/
import Derived.Test.YtlccibobknidjaaGreatEvD5
set_option linter.unusedVariables false
set_option linter.unusedSimpArgs false
set_option linter.unnecessarySimpa false
set_option linter.unusedSectionVars false
section
namespace Go.Ev.Ce
open Go Go.Ev Go.Ev.L Go.Proofs
set_option maxRecDepth 100000
noncomputable def ab9 : List (Nat × Sum) := [(115, Xa7), (194, fc7)]
theorem rd0 : i6 prog G ab9 := ⟨ob2, zc7, trivial⟩
structure ta8 where
 i5 : List V3
 is3 : Int
 is4 : Int
 is5 : Int
 bs7 : Bool
 f9 : Int
 b9 : Int
 g7 : Int
 d9 : Int
structure ma3 where
 is8 : Int
noncomputable def ad1 (p : ta8) (s : ma3) : St := ⟨((eL tV p.i5) :: (.unk :: (.unk :: ((i p.is3) :: ((i p.is4) :: ((i p.is5) :: ((.ptr 0 0 0 0) :: ((b p.bs7) :: ((i s.is8) :: (ra 48 [])))))))))), [⟨0, 4, [[(i p.f9), (i p.b9), (i p.g7), (i p.d9)]], true, false, 0⟩]⟩
noncomputable def Ba9 {α : Type} (k : ma3 → α) (e : Nat → α) (z : α) (p : ta8) (s : ma3) : α := let t1 := (Hb2 (⟨(⟨p.f9, p.b9, p.g7⟩ : V3), p.d9⟩ : Pln) (gL tV p.i5 s.is8.toNat)); (sl (decide (s.is8 < (↑(List.length p.i5) : Int))) (sl p.bs7 (sl (inB s.is8 (List.length p.i5)) (sl (Hb3 (⟨(⟨p.f9, p.b9, p.g7⟩ : V3), p.d9⟩ : Pln) (gL tV p.i5 s.is8.toNat)) (sl (t1 != 0) (e 1) (k ⟨(W (s.is8 + 1))⟩)) z) z) (e 2)) (e 3))
noncomputable def xa0 (p : ta8) (s : ma3) : Stp ma3 := Ba9 .next .exit .fail p s
noncomputable def Hb4 : Lo ta8 ma3 := ⟨En ab9, 0, Ad3, [1, 0, 1, 4, 4, 1, 0, 4, 1, 4, 4, 1, 0, 4, 1, 4, 4, 1, 0, 4, 1, 1, 4, 4], [0, 3, 4, 5, 6, 7, 8], .p, [⟨((.s (.c 3 (nL tV))) :: ((.s (.o .unk)) :: ((.s (.o .unk)) :: ((.s (.o (.int .i64))) :: ((.s (.o (.int .i64))) :: ((.s (.o (.int .i64))) :: ((.s (.o (.ptr 0 0 0 0))) :: ((.s (.o .bool)) :: ((.s (.o (.int .i64))) :: (ru2 48 [])))))))))), [⟨0, 4, true, (some [[(.o (.int .i64)), (.o (.int .i64)), (.o (.int .i64)), (.o (.int .i64))]])⟩], fun a H => (⟨(rL tV (slT a 0)), (toI (slT a 3)), (toI (slT a 4)), (toI (slT a 5)), (toB (slT a 7)), (toI (slT (rwT (elT H 0) 0) 0)), (toI (slT (rwT (elT H 0) 0) 1)), (toI (slT (rwT (elT H 0) 0) 2)), (toI (slT (rwT (elT H 0) 0) 3))⟩, ⟨(toI (slT a 8))⟩)⟩], xa0, [(none, fun p s => ⟨[(b false)], []⟩), (some 6, fun p s => ⟨((eL tV p.i5) :: (.unk :: (.unk :: ((i p.is3) :: ((i p.is4) :: ((i p.is5) :: ((.ptr 0 0 0 0) :: ((b p.bs7) :: ((i s.is8) :: (ra 32 ((i s.is8) :: ((eL tV p.i5) :: ((i (↑(List.length p.i5) : Int)) :: ((b (decide (s.is8 < (↑(List.length p.i5) : Int)))) :: ((b true) :: ((b p.bs7) :: ((b p.bs7) :: (ra 9 [])))))))))))))))))), [⟨0, 4, [[(i p.f9), (i p.b9), (i p.g7), (i p.d9)]], true, false, 0⟩]⟩), (some 6, fun p s => ⟨((eL tV p.i5) :: (.unk :: (.unk :: ((i p.is3) :: ((i p.is4) :: ((i p.is5) :: ((.ptr 0 0 0 0) :: ((b p.bs7) :: ((i s.is8) :: (ra 32 ((i s.is8) :: ((eL tV p.i5) :: ((i (↑(List.length p.i5) : Int)) :: ((b (decide (s.is8 < (↑(List.length p.i5) : Int)))) :: ((b false) :: (u :: ((b false) :: (ra 9 [])))))))))))))))))), [⟨0, 4, [[(i p.f9), (i p.b9), (i p.g7), (i p.d9)]], true, false, 0⟩]⟩)], ad1⟩
theorem ad2 : Hb4.Ok := Lo.ok [] (by kernel_rfl) .nil rfl (.cons (fun a H => by kernel_rfl) .nil) fun p s => (.of @Ba9 (fun F _ _ _ _ _ => by unfold Ba9; (repeat' apply k9 (f := F)) <;> rfl) (by kernel_rfl))
structure Sa1 where
 is3 : Int
 is4 : Int
structure ma4 where
 i5 : List V3
 is5 : Int
noncomputable def ad3 (p : Sa1) (s : ma4) : St := ⟨((eL tV s.i5) :: (.unk :: (.unk :: ((i p.is3) :: ((i p.is4) :: ((i s.is5) :: (ra 51 []))))))), []⟩
noncomputable def Ca0 {α : Type} (k : ma4 → α) (e : Nat → α) (z : α) (p : Sa1) (s : ma4) : α := let t1 := (oa5 (gL tV s.i5 p.is3.toNat) (gL tV s.i5 p.is4.toNat) (gL tV s.i5 s.is5.toNat)); let t2 := (lp (xa0 (⟨(rt tV s.i5), p.is3, p.is4, s.is5, t1.2, t1.1.n.x, t1.1.n.y, t1.1.n.z, t1.1.b⟩ : ta8)) (⟨0⟩ : ma3)); (sl (decide (s.is5 < p.is4)) (sl (inB p.is3 (List.length s.i5)) (sl (inB p.is4 (List.length s.i5)) (sl (inB s.is5 (List.length s.i5)) (sl (oa6 (gL tV s.i5 p.is3.toNat) (gL tV s.i5 p.is4.toNat) (gL tV s.i5 s.is5.toNat)) (sl ((cnE tV s.i5) && true) (sl (Nat.beq t2.1 1) (e 1) (sl (Nat.beq t2.1 2) (k ⟨(rt tV s.i5), (W (s.is5 + 1))⟩) (sl (Nat.beq t2.1 3) (k ⟨(rt tV s.i5), (W (s.is5 + 1))⟩) z))) z) z) z) z) z) (e 2))
noncomputable def xa1 (p : Sa1) (s : ma4) : Stp ma4 := Ca0 .next .exit .fail p s
noncomputable def Hb5 : Lo Sa1 ma4 := ⟨En ab9, 0, Ad3, [1, 0, 1, 4, 4, 1, 0, 4, 1, 4, 4, 1, 0, 4, 1, 4, 4], [0, 3, 4, 5], (.s .p (.s (.b (.s .p (.s .p (.b (.u Hb4.ls))))) .p)), [⟨((.s (.c 3 (nL tV))) :: ((.s (.o .unk)) :: ((.s (.o .unk)) :: ((.s (.o (.int .i64))) :: ((.s (.o (.int .i64))) :: ((.s (.o (.int .i64))) :: (ru2 51 []))))))), [], fun a H => (⟨(toI (slT a 3)), (toI (slT a 4))⟩, ⟨(rL tV (slT a 0)), (toI (slT a 5))⟩)⟩], xa1, [(none, fun p s => ⟨[(b false)], []⟩), (some 4, fun p s => ⟨((eL tV s.i5) :: (.unk :: (.unk :: ((i p.is3) :: ((i p.is4) :: ((i s.is5) :: (ra 14 ((i s.is5) :: ((i p.is4) :: ((b (decide (s.is5 < p.is4))) :: (ra 34 []))))))))))), []⟩)], ad3⟩
theorem ad4 : Hb5.Ok := Lo.ok [Hb4.pr] (by kernel_rfl) (.cons ad2 .nil) rfl (.cons (fun a H => by kernel_rfl) .nil) fun p s => (.of @Ca0 (fun F _ _ _ _ _ => by unfold Ca0; (repeat' apply k9 (f := F)) <;> rfl) (by kernel_rfl))
structure Sa2 where
 is3 : Int
structure ma5 where
 i5 : List V3
 is4 : Int
noncomputable def ad5 (p : Sa2) (s : ma5) : St := ⟨((eL tV s.i5) :: (.unk :: (.unk :: ((i p.is3) :: ((i s.is4) :: (ra 52 [])))))), []⟩
noncomputable def Ca1 {α : Type} (k : ma5 → α) (e : Nat → α) (z : α) (p : Sa2) (s : ma5) : α := let t1 := (lp (xa1 (⟨p.is3, s.is4⟩ : Sa1)) (⟨(rt tV s.i5), 0⟩ : ma4)); (sl (decide (s.is4 < p.is3)) (sl ((cnE tV s.i5) && true) (sl (Nat.beq t1.1 1) (e 1) (sl (Nat.beq t1.1 2) (k ⟨t1.2.i5, (W (s.is4 + 1))⟩) z)) z) (e 2))
noncomputable def xa2 (p : Sa2) (s : ma5) : Stp ma5 := Ca1 .next .exit .fail p s
noncomputable def Hb6 : Lo Sa2 ma5 := ⟨En ab9, 0, Ad3, [1, 0, 1, 4, 4, 1, 0, 4, 1, 4, 4], [0, 3, 4], (.s .p (.s (.b (.s .p (.b (.u Hb5.ls)))) .p)), [⟨((.s (.c 3 (nL tV))) :: ((.s (.o .unk)) :: ((.s (.o .unk)) :: ((.s (.o (.int .i64))) :: ((.s (.o (.int .i64))) :: (ru2 52 [])))))), [], fun a H => (⟨(toI (slT a 3))⟩, ⟨(rL tV (slT a 0)), (toI (slT a 4))⟩)⟩], xa2, [(none, fun p s => ⟨[(b false)], []⟩), (some 2, fun p s => ⟨((eL tV s.i5) :: (.unk :: (.unk :: ((i p.is3) :: ((i s.is4) :: (ra 10 ((i s.is4) :: ((i p.is3) :: ((b (decide (s.is4 < p.is3))) :: (ra 39 [])))))))))), []⟩)], ad5⟩
theorem ad6 : Hb6.Ok := Lo.ok [Hb5.pr] (by kernel_rfl) (.cons ad4 .nil) rfl (.cons (fun a H => by kernel_rfl) .nil) fun p s => (.of @Ca1 (fun F _ _ _ _ _ => by unfold Ca1; (repeat' apply k9 (f := F)) <;> rfl) (by kernel_rfl))
structure Sa3 where
structure ma6 where
 i5 : List V3
 is3 : Int
noncomputable def ad7 (p : Sa3) (s : ma6) : St := ⟨((eL tV s.i5) :: (.unk :: (.unk :: ((i s.is3) :: (ra 53 []))))), []⟩
noncomputable def Ca2 {α : Type} (k : ma6 → α) (e : Nat → α) (z : α) (p : Sa3) (s : ma6) : α := let t1 := (lp (xa2 (⟨s.is3⟩ : Sa2)) (⟨(rt tV s.i5), 0⟩ : ma5)); (sl (decide (s.is3 < (↑(List.length s.i5) : Int))) (sl ((cnE tV s.i5) && true) (sl (Nat.beq t1.1 1) (e 1) (sl (Nat.beq t1.1 2) (k ⟨t1.2.i5, (W (s.is3 + 1))⟩) z)) z) (e 2))
noncomputable def xa3 (p : Sa3) (s : ma6) : Stp ma6 := Ca2 .next .exit .fail p s
noncomputable def Hb7 : Lo Sa3 ma6 := ⟨En ab9, 0, Ad3, [1, 0, 1, 4, 4], [0, 3], (.s .p (.s (.b (.s .p (.b (.u Hb6.ls)))) .p)), [⟨((.s (.c 3 (nL tV))) :: ((.s (.o .unk)) :: ((.s (.o .unk)) :: ((.s (.o (.int .i64))) :: (ru2 53 []))))), [], fun a H => (⟨⟩, ⟨(rL tV (slT a 0)), (toI (slT a 3))⟩)⟩], xa3, [(none, fun p s => ⟨[(b false)], []⟩), (some 0, fun p s => ⟨((eL tV s.i5) :: (.unk :: (.unk :: ((i s.is3) :: (ra 5 ((i s.is3) :: ((eL tV s.i5) :: ((i (↑(List.length s.i5) : Int)) :: ((b (decide (s.is3 < (↑(List.length s.i5) : Int)))) :: (ra 44 [])))))))))), []⟩)], ad7⟩
theorem ad8 : Hb7.Ok := Lo.ok [Hb6.pr] (by kernel_rfl) (.cons ad6 .nil) rfl (.cons (fun a H => by kernel_rfl) .nil) fun p s => (.of @Ca2 (fun F _ _ _ _ _ => by unfold Ca2; (repeat' apply k9 (f := F)) <;> rfl) (by kernel_rfl))
noncomputable def ob5 (x : List V3) : Option (b7 × List b8) := let t1 := (lp (xa3 (⟨⟩ : Sa3)) (⟨(rt tV x), 0⟩ : ma6)); (sl ((cnE tV x) && true) (sl (Nat.beq t1.1 1) (some ((b false), [])) (sl (Nat.beq t1.1 2) (some ((b true), [])) none)) none)
noncomputable def ob6 (x : List V3) : Bool := K5 (one r1B) (ob5 x)
noncomputable def Wa5 (x : List V3) : Bool := okO (one r1B) (ob5 x)
noncomputable def fc8 : Sum := R3 (W7 tV) (fun x => .guard (Wa5 x) (.ret ((one r1B).enc (ob6 x), [])))
theorem zc8 : g9 prog G 124 fc8 := za1 (bd ef9 rd0) (one r1B) (o := ob5) fun x => sa6 (.s .p (.s (.s .p (.b (.u Hb7.ls))) .p)) [Hb7.pr] (by kernel_rfl) (.cons ad8 .nil) (by kernel_rfl)
noncomputable def oc5 : List (Nat × Sum) := [(109, Rb9), (124, fc8)]
theorem ad9 : i6 prog G oc5 := ⟨Wb6, zc8, trivial⟩
structure Ia4 where
 i5 : List V3
structure Y8 where
 is3 : Int
noncomputable def Qc8 (p : Ia4) (s : Y8) : St := ⟨((eL tV p.i5) :: (.unk :: (.unk :: ((i s.is3) :: (ra 17 []))))), []⟩
noncomputable def va9 {α : Type} (k : Y8 → α) (e : Nat → α) (z : α) (p : Ia4) (s : Y8) : α := let t1 := (Ra9 (gL tV p.i5 s.is3.toNat)); (sl (decide (s.is3 < (↑(List.length p.i5) : Int))) (sl (inB s.is3 (List.length p.i5)) (sl (Sa0 (gL tV p.i5 s.is3.toNat)) (sl (!t1) (e 1) (k ⟨(W (s.is3 + 1))⟩)) z) z) (e 2))
noncomputable def Ca3 (p : Ia4) (s : Y8) : Stp Y8 := va9 .next .exit .fail p s
noncomputable def yb2 : Lo Ia4 Y8 := ⟨En oc5, 0, Fe4, [1, 1, 0, 1, 4, 4], [0, 3], .p, [⟨((.s (.c 3 (nL tV))) :: ((.s (.o .unk)) :: ((.s (.o .unk)) :: ((.s (.o (.int .i64))) :: (ru2 17 []))))), [], fun a H => (⟨(rL tV (slT a 0))⟩, ⟨(toI (slT a 3))⟩)⟩], Ca3, [(none, fun p s => ⟨[(i 3)], []⟩), (some 0, fun p s => ⟨((eL tV p.i5) :: (.unk :: (.unk :: ((i s.is3) :: (ra 3 ((i s.is3) :: ((eL tV p.i5) :: ((i (↑(List.length p.i5) : Int)) :: ((b (decide (s.is3 < (↑(List.length p.i5) : Int)))) :: (ra 10 [])))))))))), []⟩)], Qc8⟩
theorem Qc9 : yb2.Ok := Lo.ok [] (by kernel_rfl) .nil rfl (.cons (fun a H => by kernel_rfl) .nil) fun p s => (.of @va9 (fun F _ _ _ _ _ => by unfold va9; (repeat' apply k9 (f := F)) <;> rfl) (by kernel_rfl))
noncomputable def bb0 (x : List V3) : Option (b7 × List b8) := let t1 := (lp (Ca3 (⟨(rt tV x)⟩ : Ia4)) (⟨0⟩ : Y8)); let t2 := (ob6 (rt tV (rt tV x))); (sl (decide ((↑(List.length x) : Int) > 48)) (some ((i 2), [])) (sl ((cnE tV x) && true) (sl (Nat.beq t1.1 1) (some ((i 3), [])) (sl (Nat.beq t1.1 2) (sl (okE tV (rt tV x)) (sl (Wa5 (rt tV (rt tV x))) (sl t2 (some ((i 11), [])) (some ((i 0), []))) none) none) none)) none))
noncomputable def Sb2 (x : List V3) : Int := K5 (one r1I) (bb0 x)
noncomputable def Sb3 (x : List V3) : Bool := okO (one r1I) (bb0 x)
noncomputable def zc9 : Sum := R3 (W7 tV) (fun x => .guard (Sb3 x) (.ret ((one r1I).enc (Sb2 x), [])))
theorem rd1 : g9 prog G 182 zc9 := za1 (bd hf4 ad9) (one r1I) (o := bb0) fun x => sa6 (.s .p (.s .p (.s (.s .p (.b (.u yb2.ls))) .p))) [yb2.pr] (by kernel_rfl) (.cons Qc9 .nil) (by kernel_rfl)
noncomputable def oc6 : List (Nat × Sum) := [(194, fc7)]
theorem bd0 : i6 prog G oc6 := ⟨zc7, trivial⟩
structure Ia5 where
 rc4 : List V3
 f9 : Int
 b9 : Int
 g7 : Int
 d9 : Int
structure Y9 where
 is5 : Int
noncomputable def Rc0 (p : Ia5) (s : Y9) : St := ⟨(.unk :: ((eL tV p.rc4) :: ((.ptr 0 0 0 0) :: (.unk :: (.unk :: ((i s.is5) :: (ra 13 []))))))), [⟨0, 4, [[(i p.f9), (i p.b9), (i p.g7), (i p.d9)]], true, false, 0⟩]⟩
noncomputable def wa0 {α : Type} (k : Y9 → α) (e : Nat → α) (z : α) (p : Ia5) (s : Y9) : α := let t1 := (Hb2 (⟨(⟨p.f9, p.b9, p.g7⟩ : V3), p.d9⟩ : Pln) (gL tV p.rc4 s.is5.toNat)); (sl (decide (s.is5 < (↑(List.length p.rc4) : Int))) (sl (inB s.is5 (List.length p.rc4)) (sl (Hb3 (⟨(⟨p.f9, p.b9, p.g7⟩ : V3), p.d9⟩ : Pln) (gL tV p.rc4 s.is5.toNat)) (sl (decide (t1 > 0)) (e 1) (k ⟨(W (s.is5 + 1))⟩)) z) z) (e 2))
noncomputable def Ca4 (p : Ia5) (s : Y9) : Stp Y9 := wa0 .next .exit .fail p s
noncomputable def yb3 : Lo Ia5 Y9 := ⟨En oc6, 0, Fe5, [1, 0, 1, 4, 4], [1, 2, 5], .p, [⟨((.s (.o .unk)) :: ((.s (.c 3 (nL tV))) :: ((.s (.o (.ptr 0 0 0 0))) :: ((.s (.o .unk)) :: ((.s (.o .unk)) :: ((.s (.o (.int .i64))) :: (ru2 13 []))))))), [⟨0, 4, true, (some [[(.o (.int .i64)), (.o (.int .i64)), (.o (.int .i64)), (.o (.int .i64))]])⟩], fun a H => (⟨(rL tV (slT a 1)), (toI (slT (rwT (elT H 0) 0) 0)), (toI (slT (rwT (elT H 0) 0) 1)), (toI (slT (rwT (elT H 0) 0) 2)), (toI (slT (rwT (elT H 0) 0) 3))⟩, ⟨(toI (slT a 5))⟩)⟩], Ca4, [(none, fun p s => ⟨[(b false)], []⟩), (some 0, fun p s => ⟨(.unk :: ((eL tV p.rc4) :: ((.ptr 0 0 0 0) :: (.unk :: (.unk :: ((i s.is5) :: ((i s.is5) :: ((eL tV p.rc4) :: ((i (↑(List.length p.rc4) : Int)) :: ((b (decide (s.is5 < (↑(List.length p.rc4) : Int)))) :: (ra 9 []))))))))))), [⟨0, 4, [[(i p.f9), (i p.b9), (i p.g7), (i p.d9)]], true, false, 0⟩]⟩)], Rc0⟩
theorem Rc1 : yb3.Ok := Lo.ok [] (by kernel_rfl) .nil rfl (.cons (fun a H => by kernel_rfl) .nil) fun p s => (.of @wa0 (fun F _ _ _ _ _ => by unfold wa0; (repeat' apply k9 (f := F)) <;> rfl) (by kernel_rfl))
noncomputable def bb1 (x : Pln) (y : List V3) : Option (b7 × List b8) := let t1 := (lp (Ca4 (⟨(rt tV y), x.n.x, x.n.y, x.n.z, x.b⟩ : Ia5)) (⟨0⟩ : Y9)); (sl ((cnE tV y) && true) (sl (Nat.beq t1.1 1) (some ((b false), [])) (sl (Nat.beq t1.1 2) (some ((b true), [])) none)) none)
noncomputable def bb2 (x : Pln) (y : List V3) : Bool := K5 (one r1B) (bb1 x y)
noncomputable def ma7 (x : Pln) (y : List V3) : Bool := okO (one r1B) (bb1 x y)
noncomputable def Ac0 : Sum := oa1 (R4 tP) (W7 tV) (fun x y => .guard (ma7 x y) (.ret ((one r1B).enc (bb2 x y), [])))
theorem rd2 : g9 prog G 183 Ac0 := gb5 (bd hf5 bd0) (one r1B) (o := bb1) fun x y => sa6 (.s .p (.s (.s .p (.b (.u yb3.ls))) .p)) [yb3.pr] (by kernel_rfl) (.cons Rc1 .nil) (by kernel_rfl)
noncomputable def Rc2 : List (Nat × Sum) := [(180, yb1)]
theorem Dd9 : i6 prog G Rc2 := ⟨Sb1, trivial⟩
structure bb3 where
 c7 : List Pln
 f9 : Int
 b9 : Int
 g7 : Int
 d9 : Int
structure ma8 where
 is5 : Int
noncomputable def rd3 (p : bb3) (s : ma8) : St := ⟨((eL tP p.c7) :: (.unk :: (.unk :: ((.ptr 0 0 0 0) :: (.unk :: ((i s.is5) :: (ra 42 []))))))), [⟨0, 4, [[(i p.f9), (i p.b9), (i p.g7), (i p.d9)]], true, false, 0⟩]⟩
noncomputable def Ia6 {α : Type} (k : ma8 → α) (e : Nat → α) (z : α) (p : bb3) (s : ma8) : α := let t1 := (Y7 (gL tP p.c7 s.is5.toNat) (⟨(⟨p.f9, p.b9, p.g7⟩ : V3), p.d9⟩ : Pln)); (sl (decide (s.is5 < (↑(List.length p.c7) : Int))) (sl (inB s.is5 (List.length p.c7)) (sl (Xa8 (gL tP p.c7 s.is5.toNat) (⟨(⟨p.f9, p.b9, p.g7⟩ : V3), p.d9⟩ : Pln)) (sl (decide (t1 < 0)) (k ⟨(W (s.is5 + 1))⟩) (e 1)) z) z) (e 2))
noncomputable def Ea7 (p : bb3) (s : ma8) : Stp ma8 := Ia6 .next .exit .fail p s
noncomputable def Sb4 : Lo bb3 ma8 := ⟨En Rc2, 0, Fe6, [1, 1, 0, 4, 4], [0, 3, 5], .p, [⟨((.s (.c 4 (nL tP))) :: ((.s (.o .unk)) :: ((.s (.o .unk)) :: ((.s (.o (.ptr 0 0 0 0))) :: ((.s (.o .unk)) :: ((.s (.o (.int .i64))) :: (ru2 42 []))))))), [⟨0, 4, true, (some [[(.o (.int .i64)), (.o (.int .i64)), (.o (.int .i64)), (.o (.int .i64))]])⟩], fun a H => (⟨(rL tP (slT a 0)), (toI (slT (rwT (elT H 0) 0) 0)), (toI (slT (rwT (elT H 0) 0) 1)), (toI (slT (rwT (elT H 0) 0) 2)), (toI (slT (rwT (elT H 0) 0) 3))⟩, ⟨(toI (slT a 5))⟩)⟩], Ea7, [(some 0, fun p s => let t1 := (Y7 (gL tP p.c7 s.is5.toNat) (⟨(⟨p.f9, p.b9, p.g7⟩ : V3), p.d9⟩ : Pln)); ⟨((eL tP p.c7) :: (.unk :: (.unk :: ((.ptr 0 0 0 0) :: (.unk :: ((i s.is5) :: (.unk :: ((i s.is5) :: ((eL tP p.c7) :: ((i (↑(List.length p.c7) : Int)) :: ((b (decide (s.is5 < (↑(List.length p.c7) : Int)))) :: ((b true) :: ((eL tP p.c7) :: ((i s.is5) :: ((.tptr [(i (gL tP p.c7 s.is5.toNat).n.x), (i (gL tP p.c7 s.is5.toNat).n.y), (i (gL tP p.c7 s.is5.toNat).n.z), (i (gL tP p.c7 s.is5.toNat).b)]) :: ((.agg [(i (gL tP p.c7 s.is5.toNat).n.x), (i (gL tP p.c7 s.is5.toNat).n.y), (i (gL tP p.c7 s.is5.toNat).n.z), (i (gL tP p.c7 s.is5.toNat).b)]) :: ((.agg [(i p.f9), (i p.b9), (i p.g7), (i p.d9)]) :: ((i t1) :: ((b (decide (t1 < 0))) :: ((b (decide (t1 < 0))) :: (ra 28 []))))))))))))))))))))), [⟨0, 4, [[(i p.f9), (i p.b9), (i p.g7), (i p.d9)]], true, false, 0⟩]⟩), (some 0, fun p s => ⟨((eL tP p.c7) :: (.unk :: (.unk :: ((.ptr 0 0 0 0) :: (.unk :: ((i s.is5) :: (.unk :: ((i s.is5) :: ((eL tP p.c7) :: ((i (↑(List.length p.c7) : Int)) :: ((b (decide (s.is5 < (↑(List.length p.c7) : Int)))) :: ((b false) :: (u :: (u :: (u :: (u :: (u :: (u :: (u :: ((b false) :: (ra 28 []))))))))))))))))))))), [⟨0, 4, [[(i p.f9), (i p.b9), (i p.g7), (i p.d9)]], true, false, 0⟩]⟩)], rd3⟩
theorem rd4 : Sb4.Ok := Lo.ok [] (by kernel_rfl) .nil rfl (.cons (fun a H => by kernel_rfl) .nil) fun p s => (.of @Ia6 (fun F _ _ _ _ _ => by unfold Ia6; (repeat' apply k9 (f := F)) <;> rfl) (by kernel_rfl))
noncomputable def Bb9 (x : List Pln) (y : Pln) : Option (b7 × List b8) := let t1 := (lp (Ea7 (⟨(rt tP x), y.n.x, y.n.y, y.n.z, y.b⟩ : bb3)) (⟨0⟩ : ma8)); let a0 := (o7 (fun k => (fun k => (tP).row (gL tP (rt tP x) k)) (0 + k)) (List.range (t1.2.is5.toNat - 0))); let a1 := (o7 (fun k => (fun k => (tP).row (gL tP (rt tP x) k)) (t1.2.is5.toNat + k)) (List.range ((List.length (rt tP x)) - t1.2.is5.toNat))); let a2 := (inB t1.2.is5 ((List.length (rt tP x)) + 1)); let a3 := (Nat.beq (0 + (len a0)) (len (app [] a0)) && Nat.ble (((0 + (len a0)) + 1) * 32) room); let a4 := (((0 + (len a0)) + 1) + (len a1)); let a5 := (gL tP (rt tP x) t1.2.is5.toNat); let a6 := (Nat.beq 1 1 && Nat.ble ((1 + (len a1)) * 32) room); let a7 := (Nat.beq 0 0 && Nat.ble ((0 + (len a0)) * 32) room); (sl ((cnE tP x) && true) (sl (Nat.beq t1.1 1) (sl (decide (t1.2.is5 < (↑(List.length (rt tP x)) : Int))) (sl (inB t1.2.is5 (List.length (rt tP x))) (sl ((a5.n.x == y.n.x) && ((a5.n.y == y.n.y) && ((a5.n.z == y.n.z) && ((a5.b == y.b) && true)))) (some ((eL tP (rt tP x)), [])) (sl a2 (sl (Nat.beq (len a0) 0) (sl a2 (sl (Nat.beq (len a1) 0) (some ((.sl 0 0 1 0), [⟨50, 4, [[(i y.n.x), (i y.n.y), (i y.n.z), (i y.b)]], true, false, 0⟩])) (sl a6 (some ((.sl 0 0 (1 + (len a1)) 0), [⟨50, 4, (app [[(i y.n.x), (i y.n.y), (i y.n.z), (i y.b)]] a1), true, false, 0⟩])) none)) none) (sl a7 (sl a3 (sl a2 (sl (Nat.beq (len a1) 0) (some ((.sl 0 0 ((0 + (len a0)) + 1) 0), [⟨50, 4, (app (app [] a0) [[(i y.n.x), (i y.n.y), (i y.n.z), (i y.b)]]), true, false, 0⟩])) (sl (Nat.beq ((0 + (len a0)) + 1) (len (app (app [] a0) [[(i y.n.x), (i y.n.y), (i y.n.z), (i y.b)]])) && Nat.ble (a4 * 32) room) (some ((.sl 0 0 a4 0), [⟨50, 4, (app (app (app [] a0) [[(i y.n.x), (i y.n.y), (i y.n.z), (i y.b)]]) a1), true, false, 0⟩])) none)) none) none) none)) none)) none) (sl a2 (sl (Nat.beq (len a0) 0) (sl a2 (sl (Nat.beq (len a1) 0) (some ((.sl 0 0 1 0), [⟨50, 4, [[(i y.n.x), (i y.n.y), (i y.n.z), (i y.b)]], true, false, 0⟩])) (sl a6 (some ((.sl 0 0 (1 + (len a1)) 0), [⟨50, 4, (app [[(i y.n.x), (i y.n.y), (i y.n.z), (i y.b)]] a1), true, false, 0⟩])) none)) none) (sl a7 (sl a3 (sl a2 (sl (Nat.beq (len a1) 0) (some ((.sl 0 0 ((0 + (len a0)) + 1) 0), [⟨50, 4, (app (app [] a0) [[(i y.n.x), (i y.n.y), (i y.n.z), (i y.b)]]), true, false, 0⟩])) (sl (Nat.beq ((0 + (len a0)) + 1) (len (app (app [] a0) [[(i y.n.x), (i y.n.y), (i y.n.z), (i y.b)]])) && Nat.ble (a4 * 32) room) (some ((.sl 0 0 a4 0), [⟨50, 4, (app (app (app [] a0) [[(i y.n.x), (i y.n.y), (i y.n.z), (i y.b)]]) a1), true, false, 0⟩])) none)) none) none) none)) none)) (sl (Nat.beq t1.1 2) (sl (decide (t1.2.is5 < (↑(List.length (rt tP x)) : Int))) (sl (inB t1.2.is5 (List.length (rt tP x))) (sl ((a5.n.x == y.n.x) && ((a5.n.y == y.n.y) && ((a5.n.z == y.n.z) && ((a5.b == y.b) && true)))) (some ((eL tP (rt tP x)), [])) (sl a2 (sl (Nat.beq (len a0) 0) (sl a2 (sl (Nat.beq (len a1) 0) (some ((.sl 0 0 1 0), [⟨50, 4, [[(i y.n.x), (i y.n.y), (i y.n.z), (i y.b)]], true, false, 0⟩])) (sl a6 (some ((.sl 0 0 (1 + (len a1)) 0), [⟨50, 4, (app [[(i y.n.x), (i y.n.y), (i y.n.z), (i y.b)]] a1), true, false, 0⟩])) none)) none) (sl a7 (sl a3 (sl a2 (sl (Nat.beq (len a1) 0) (some ((.sl 0 0 ((0 + (len a0)) + 1) 0), [⟨50, 4, (app (app [] a0) [[(i y.n.x), (i y.n.y), (i y.n.z), (i y.b)]]), true, false, 0⟩])) (sl (Nat.beq ((0 + (len a0)) + 1) (len (app (app [] a0) [[(i y.n.x), (i y.n.y), (i y.n.z), (i y.b)]])) && Nat.ble (a4 * 32) room) (some ((.sl 0 0 a4 0), [⟨50, 4, (app (app (app [] a0) [[(i y.n.x), (i y.n.y), (i y.n.z), (i y.b)]]) a1), true, false, 0⟩])) none)) none) none) none)) none)) none) (sl a2 (sl (Nat.beq (len a0) 0) (sl a2 (sl (Nat.beq (len a1) 0) (some ((.sl 0 0 1 0), [⟨50, 4, [[(i y.n.x), (i y.n.y), (i y.n.z), (i y.b)]], true, false, 0⟩])) (sl a6 (some ((.sl 0 0 (1 + (len a1)) 0), [⟨50, 4, (app [[(i y.n.x), (i y.n.y), (i y.n.z), (i y.b)]] a1), true, false, 0⟩])) none)) none) (sl a7 (sl a3 (sl a2 (sl (Nat.beq (len a1) 0) (some ((.sl 0 0 ((0 + (len a0)) + 1) 0), [⟨50, 4, (app (app [] a0) [[(i y.n.x), (i y.n.y), (i y.n.z), (i y.b)]]), true, false, 0⟩])) (sl (Nat.beq ((0 + (len a0)) + 1) (len (app (app [] a0) [[(i y.n.x), (i y.n.y), (i y.n.z), (i y.b)]])) && Nat.ble (a4 * 32) room) (some ((.sl 0 0 a4 0), [⟨50, 4, (app (app (app [] a0) [[(i y.n.x), (i y.n.y), (i y.n.z), (i y.b)]]) a1), true, false, 0⟩])) none)) none) none) none)) none)) none)) none)
noncomputable def K8 (x : List Pln) (y : Pln) : List Pln := K5 (one (r1L tP)) (Bb9 x y)
noncomputable def xa4 (x : List Pln) (y : Pln) : Bool := okO (one (r1L tP)) (Bb9 x y)
noncomputable def id8 : Sum := oa1 (W7 tP) (R4 tP) (fun x y => .guard (xa4 x y) (.ret ((one (r1L tP)).enc (K8 x y), [])))
theorem Od6 : g9 prog G 184 id8 := gb5 (bd hf6 Dd9) (one (r1L tP)) (o := Bb9) fun x y => sa6 (.s .p (.s .p (.s (.b (.u Sb4.ls)) .p))) [Sb4.pr] (by kernel_rfl) (.cons rd4 .nil) (by kernel_rfl)
noncomputable def ib3 : List (Nat × Sum) := [(182, zc9), (115, Xa7), (183, Ac0), (184, id8), (119, fc6)]
theorem bd1 : i6 prog G ib3 := ⟨rd1, ob2, rd2, Od6, zc6, trivial⟩
structure Z0 where
 i5 : List V3
 is6 : Int
 is7 : Int
structure G3 where
 ph : Nat
 is8 : Int
 ja0 : List Pln
noncomputable def Dc7 (p : Z0) (s : G3) : St := ⟨((eL tV p.i5) :: (ra 4 ((.v (.slice none 0 0)) :: ((i p.is6) :: ((i p.is7) :: ((i s.is8) :: (ra 56 []))))))), []⟩
noncomputable def Dc8 (p : Z0) (s : G3) : St := ⟨((eL tV p.i5) :: (ra 4 ((eL tP s.ja0) :: ((i p.is6) :: ((i p.is7) :: ((i s.is8) :: (ra 56 []))))))), []⟩
noncomputable def Rc3 (p : Z0) (s : G3) : St := (sel (Nat.beq s.ph 1) (Dc8 p s) (Dc7 p s))
noncomputable def ca2 {α : Type} (k : G3 → α) (e : Nat → α) (z : α) (p : Z0) (s : G3) : α := let t1 := (oa5 (gL tV p.i5 p.is6.toNat) (gL tV p.i5 p.is7.toNat) (gL tV p.i5 s.is8.toNat)); let t2 := (bb2 t1.1 (rt tV p.i5)); let t3 := (K8 [] t1.1); let t4 := (Hb1 t1.1); let t5 := (bb2 t4 (rt tV p.i5)); let t6 := (K8 (rt tP t3) t4); let t7 := (K8 [] t4); (sl (decide (s.is8 < p.is7)) (sl (inB p.is6 (List.length p.i5)) (sl (inB p.is7 (List.length p.i5)) (sl (inB s.is8 (List.length p.i5)) (sl (oa6 (gL tV p.i5 p.is6.toNat) (gL tV p.i5 p.is7.toNat) (gL tV p.i5 s.is8.toNat)) (sl (!t1.2) (k ⟨0, (W (s.is8 + 1)), []⟩) (sl (okE tV p.i5) (sl (ma7 t1.1 (rt tV p.i5)) (sl t2 (sl (xa4 [] t1.1) (sl (okE tV p.i5) (sl (ma7 t4 (rt tV p.i5)) (sl t5 (sl (okE tP t3) (sl (xa4 (rt tP t3) t4) (k ⟨1, (W (s.is8 + 1)), t6⟩) z) z) (k ⟨1, (W (s.is8 + 1)), t3⟩)) z) z) z) (sl (okE tV p.i5) (sl (ma7 t4 (rt tV p.i5)) (sl t5 (sl (xa4 [] t4) (k ⟨1, (W (s.is8 + 1)), t7⟩) z) (k ⟨0, (W (s.is8 + 1)), []⟩)) z) z)) z) z)) z) z) z) z) (e 1))
noncomputable def ca3 {α : Type} (k : G3 → α) (e : Nat → α) (z : α) (p : Z0) (s : G3) : α := let t1 := (oa5 (gL tV p.i5 p.is6.toNat) (gL tV p.i5 p.is7.toNat) (gL tV p.i5 s.is8.toNat)); let t2 := (bb2 t1.1 (rt tV p.i5)); let t3 := (K8 (rt tP s.ja0) t1.1); let t4 := (Hb1 t1.1); let t5 := (bb2 t4 (rt tV p.i5)); let t6 := (K8 (rt tP t3) t4); let t7 := (K8 (rt tP s.ja0) t4); (sl (decide (s.is8 < p.is7)) (sl (inB p.is6 (List.length p.i5)) (sl (inB p.is7 (List.length p.i5)) (sl (inB s.is8 (List.length p.i5)) (sl (oa6 (gL tV p.i5 p.is6.toNat) (gL tV p.i5 p.is7.toNat) (gL tV p.i5 s.is8.toNat)) (sl (!t1.2) (k ⟨1, (W (s.is8 + 1)), s.ja0⟩) (sl (okE tV p.i5) (sl (ma7 t1.1 (rt tV p.i5)) (sl t2 (sl (okE tP s.ja0) (sl (xa4 (rt tP s.ja0) t1.1) (sl (okE tV p.i5) (sl (ma7 t4 (rt tV p.i5)) (sl t5 (sl (okE tP t3) (sl (xa4 (rt tP t3) t4) (k ⟨1, (W (s.is8 + 1)), t6⟩) z) z) (k ⟨1, (W (s.is8 + 1)), t3⟩)) z) z) z) z) (sl (okE tV p.i5) (sl (ma7 t4 (rt tV p.i5)) (sl t5 (sl (okE tP s.ja0) (sl (xa4 (rt tP s.ja0) t4) (k ⟨1, (W (s.is8 + 1)), t7⟩) z) z) (k ⟨1, (W (s.is8 + 1)), s.ja0⟩)) z) z)) z) z)) z) z) z) z) (e 2))
noncomputable def Ca5 (p : Z0) (s : G3) : Stp G3 := (sel (Nat.beq s.ph 1) (ca3 .next .exit .fail p s) (ca2 .next .exit .fail p s))
noncomputable def yb4 : Lo Z0 G3 := ⟨En ib3, 0, Sd4, [1, 1, 1, 1, 0, 1, 4, 4, 1, 0, 4, 1, 4, 4, 1, 0, 4, 1, 4, 4], [0, 5, 6, 7, 8], .p, [⟨((.s (.c 3 (nL tV))) :: (ru2 4 ((.s (.o .nil)) :: ((.s (.o (.int .i64))) :: ((.s (.o (.int .i64))) :: ((.s (.o (.int .i64))) :: (ru2 56 []))))))), [], fun a H => (⟨(rL tV (slT a 0)), (toI (slT a 6)), (toI (slT a 7))⟩, ⟨0, (toI (slT a 8)), []⟩)⟩, ⟨((.s (.c 3 (nL tV))) :: (ru2 4 ((.s (.c 4 (nL tP))) :: ((.s (.o (.int .i64))) :: ((.s (.o (.int .i64))) :: ((.s (.o (.int .i64))) :: (ru2 56 []))))))), [], fun a H => (⟨(rL tV (slT a 0)), (toI (slT a 6)), (toI (slT a 7))⟩, ⟨1, (toI (slT a 8)), (rL tP (slT a 5))⟩)⟩], Ca5, [(some 4, fun p s => ⟨((eL tV p.i5) :: (ra 4 ((.v (.slice none 0 0)) :: ((i p.is6) :: ((i p.is7) :: ((i s.is8) :: (ra 18 ((i s.is8) :: ((i p.is7) :: ((b (decide (s.is8 < p.is7))) :: (ra 35 []))))))))))), []⟩), (some 4, fun p s => ⟨((eL tV p.i5) :: (ra 4 ((eL tP s.ja0) :: ((i p.is6) :: ((i p.is7) :: ((i s.is8) :: (ra 18 ((i s.is8) :: ((i p.is7) :: ((b (decide (s.is8 < p.is7))) :: (ra 35 []))))))))))), []⟩)], Rc3⟩
theorem Rc4 : yb4.Ok := Lo.ok [] (by kernel_rfl) .nil rfl (.cons (fun a H => by kernel_rfl) (.cons (fun a H => by kernel_rfl) .nil)) fun p s => (.sel (Nat.beq s.ph 1) (.of @ca3 (fun F _ _ _ _ _ => by unfold ca3; (repeat' apply k9 (f := F)) <;> rfl) (by kernel_rfl)) (.of @ca2 (fun F _ _ _ _ _ => by unfold ca2; (repeat' apply k9 (f := F)) <;> rfl) (by kernel_rfl)))
structure Z1 where
 is6 : Int
structure G4 where
 ph : Nat
 i5 : List V3
 is7 : Int
 ja0 : List Pln
noncomputable def Dc9 (p : Z1) (s : G4) : St := ⟨((eL tV s.i5) :: (ra 4 ((.v (.slice none 0 0)) :: ((i p.is6) :: ((i s.is7) :: (ra 57 [])))))), []⟩
noncomputable def Ec0 (p : Z1) (s : G4) : St := ⟨((eL tV s.i5) :: (ra 4 ((eL tP s.ja0) :: ((i p.is6) :: ((i s.is7) :: (ra 57 [])))))), []⟩
noncomputable def Rc5 (p : Z1) (s : G4) : St := (sel (Nat.beq s.ph 1) (Ec0 p s) (Dc9 p s))
noncomputable def ca4 {α : Type} (k : G4 → α) (e : Nat → α) (z : α) (p : Z1) (s : G4) : α := let t1 := (lp (Ca5 (⟨(rt tV s.i5), p.is6, s.is7⟩ : Z0)) (⟨0, 0, []⟩ : G3)); (sl (decide (s.is7 < p.is6)) (sl ((cnE tV s.i5) && true) (sl (Nat.beq t1.1 1) (k ⟨0, (rt tV s.i5), (W (s.is7 + 1)), []⟩) (sl (Nat.beq t1.1 2) (k ⟨1, (rt tV s.i5), (W (s.is7 + 1)), t1.2.ja0⟩) z)) z) (e 1))
noncomputable def ca5 {α : Type} (k : G4 → α) (e : Nat → α) (z : α) (p : Z1) (s : G4) : α := let t1 := (lp (Ca5 (⟨(rt tV s.i5), p.is6, s.is7⟩ : Z0)) (⟨1, 0, (rt tP s.ja0)⟩ : G3)); (sl (decide (s.is7 < p.is6)) (sl ((cnE tV s.i5) && ((cnE tP s.ja0) && true)) (sl (Nat.beq t1.1 1) (k ⟨0, (rt tV s.i5), (W (s.is7 + 1)), []⟩) (sl (Nat.beq t1.1 2) (k ⟨1, (rt tV s.i5), (W (s.is7 + 1)), t1.2.ja0⟩) z)) z) (e 2))
noncomputable def Ca6 (p : Z1) (s : G4) : Stp G4 := (sel (Nat.beq s.ph 1) (ca5 .next .exit .fail p s) (ca4 .next .exit .fail p s))
noncomputable def yb5 : Lo Z1 G4 := ⟨En ib3, 0, Sd4, [1, 1, 1, 1, 0, 1, 4, 4, 1, 0, 4, 1, 4, 4], [0, 5, 6, 7], (.s .p (.s (.b (.s .p (.b (.u yb4.ls)))) .p)), [⟨((.s (.c 3 (nL tV))) :: (ru2 4 ((.s (.o .nil)) :: ((.s (.o (.int .i64))) :: ((.s (.o (.int .i64))) :: (ru2 57 [])))))), [], fun a H => (⟨(toI (slT a 6))⟩, ⟨0, (rL tV (slT a 0)), (toI (slT a 7)), []⟩)⟩, ⟨((.s (.c 3 (nL tV))) :: (ru2 4 ((.s (.c 4 (nL tP))) :: ((.s (.o (.int .i64))) :: ((.s (.o (.int .i64))) :: (ru2 57 [])))))), [], fun a H => (⟨(toI (slT a 6))⟩, ⟨1, (rL tV (slT a 0)), (toI (slT a 7)), (rL tP (slT a 5))⟩)⟩], Ca6, [(some 2, fun p s => ⟨((eL tV s.i5) :: (ra 4 ((.v (.slice none 0 0)) :: ((i p.is6) :: ((i s.is7) :: (ra 14 ((i s.is7) :: ((i p.is6) :: ((b (decide (s.is7 < p.is6))) :: (ra 40 [])))))))))), []⟩), (some 2, fun p s => ⟨((eL tV s.i5) :: (ra 4 ((eL tP s.ja0) :: ((i p.is6) :: ((i s.is7) :: (ra 14 ((i s.is7) :: ((i p.is6) :: ((b (decide (s.is7 < p.is6))) :: (ra 40 [])))))))))), []⟩)], Rc5⟩
theorem Rc6 : yb5.Ok := Lo.ok [yb4.pr] (by kernel_rfl) (.cons Rc4 .nil) rfl (.cons (fun a H => by kernel_rfl) (.cons (fun a H => by kernel_rfl) .nil)) fun p s => (.sel (Nat.beq s.ph 1) (.of @ca5 (fun F _ _ _ _ _ => by unfold ca5; (repeat' apply k9 (f := F)) <;> rfl) (by kernel_rfl)) (.of @ca4 (fun F _ _ _ _ _ => by unfold ca4; (repeat' apply k9 (f := F)) <;> rfl) (by kernel_rfl)))
structure ga5 where
structure K4 where
 ph : Nat
 i5 : List V3
 is6 : Int
 ja0 : List Pln
noncomputable def Ec1 (p : ga5) (s : K4) : St := ⟨((eL tV s.i5) :: (ra 4 ((.v (.slice none 0 0)) :: ((i s.is6) :: (ra 58 []))))), []⟩
noncomputable def Ec2 (p : ga5) (s : K4) : St := ⟨((eL tV s.i5) :: (ra 4 ((eL tP s.ja0) :: ((i s.is6) :: (ra 58 []))))), []⟩
noncomputable def Rc7 (p : ga5) (s : K4) : St := (sel (Nat.beq s.ph 1) (Ec2 p s) (Ec1 p s))
noncomputable def ca6 {α : Type} (k : K4 → α) (e : Nat → α) (z : α) (p : ga5) (s : K4) : α := let t1 := (lp (Ca6 (⟨s.is6⟩ : Z1)) (⟨0, (rt tV s.i5), 0, []⟩ : G4)); (sl (decide (s.is6 < (↑(List.length s.i5) : Int))) (sl ((cnE tV s.i5) && true) (sl (Nat.beq t1.1 1) (k ⟨0, t1.2.i5, (W (s.is6 + 1)), []⟩) (sl (Nat.beq t1.1 2) (k ⟨1, t1.2.i5, (W (s.is6 + 1)), t1.2.ja0⟩) z)) z) (e 1))
noncomputable def ca7 {α : Type} (k : K4 → α) (e : Nat → α) (z : α) (p : ga5) (s : K4) : α := let t1 := (lp (Ca6 (⟨s.is6⟩ : Z1)) (⟨1, (rt tV s.i5), 0, (rt tP s.ja0)⟩ : G4)); (sl (decide (s.is6 < (↑(List.length s.i5) : Int))) (sl ((cnE tV s.i5) && ((cnE tP s.ja0) && true)) (sl (Nat.beq t1.1 1) (k ⟨0, t1.2.i5, (W (s.is6 + 1)), []⟩) (sl (Nat.beq t1.1 2) (k ⟨1, t1.2.i5, (W (s.is6 + 1)), t1.2.ja0⟩) z)) z) (e 2))
noncomputable def Sa4 (p : ga5) (s : K4) : Stp K4 := (sel (Nat.beq s.ph 1) (ca7 .next .exit .fail p s) (ca6 .next .exit .fail p s))
noncomputable def yb6 : Lo ga5 K4 := ⟨En ib3, 0, Sd4, [1, 1, 1, 1, 0, 1, 4, 4], [0, 5, 6], (.s .p (.s (.b (.s .p (.b (.u yb5.ls)))) .p)), [⟨((.s (.c 3 (nL tV))) :: (ru2 4 ((.s (.o .nil)) :: ((.s (.o (.int .i64))) :: (ru2 58 []))))), [], fun a H => (⟨⟩, ⟨0, (rL tV (slT a 0)), (toI (slT a 6)), []⟩)⟩, ⟨((.s (.c 3 (nL tV))) :: (ru2 4 ((.s (.c 4 (nL tP))) :: ((.s (.o (.int .i64))) :: (ru2 58 []))))), [], fun a H => (⟨⟩, ⟨1, (rL tV (slT a 0)), (toI (slT a 6)), (rL tP (slT a 5))⟩)⟩], Sa4, [(some 0, fun p s => ⟨((eL tV s.i5) :: (ra 4 ((.v (.slice none 0 0)) :: ((i s.is6) :: (ra 9 ((i s.is6) :: ((eL tV s.i5) :: ((i (↑(List.length s.i5) : Int)) :: ((b (decide (s.is6 < (↑(List.length s.i5) : Int)))) :: (ra 45 [])))))))))), []⟩), (some 0, fun p s => ⟨((eL tV s.i5) :: (ra 4 ((eL tP s.ja0) :: ((i s.is6) :: (ra 9 ((i s.is6) :: ((eL tV s.i5) :: ((i (↑(List.length s.i5) : Int)) :: ((b (decide (s.is6 < (↑(List.length s.i5) : Int)))) :: (ra 45 [])))))))))), []⟩)], Rc7⟩
theorem Rc8 : yb6.Ok := Lo.ok [yb5.pr] (by kernel_rfl) (.cons Rc6 .nil) rfl (.cons (fun a H => by kernel_rfl) (.cons (fun a H => by kernel_rfl) .nil)) fun p s => (.sel (Nat.beq s.ph 1) (.of @ca7 (fun F _ _ _ _ _ => by unfold ca7; (repeat' apply k9 (f := F)) <;> rfl) (by kernel_rfl)) (.of @ca6 (fun F _ _ _ _ _ => by unfold ca6; (repeat' apply k9 (f := F)) <;> rfl) (by kernel_rfl)))
noncomputable def bb4 (x : List V3) : Option (b7 × List b8) := let t1 := (Sb2 (rt tV x)); let t2 := (lp (Sa4 (⟨⟩ : ga5)) (⟨0, (rt tV x), 0, []⟩ : K4)); (sl (okE tV x) (sl (Sb3 (rt tV x)) (sl (t1 != 0) (some ((.tup [(.v (.slice none 0 0)), (i t1)]), [])) (sl ((cnE tV x) && true) (sl (Nat.beq t2.1 1) (some ((.tup [(.v (.slice none 0 0)), (i 0)]), [])) (sl (Nat.beq t2.1 2) (some ((.tup [(eL tP t2.2.ja0), (i 0)]), [])) none)) none)) none) none)
noncomputable def vb1 (x : List V3) : List Pln × Int := K5 (two (r1L tP) r1I) (bb4 x)
noncomputable def Na8 (x : List V3) : Bool := okO (two (r1L tP) r1I) (bb4 x)
noncomputable def Ac1 : Sum := R3 (W7 tV) (fun x => .guard (Na8 x) (.ret ((two (r1L tP) r1I).enc (vb1 x), [])))
theorem rd5 : g9 prog G 112 Ac1 := za1 (bd ef4 bd1) (two (r1L tP) r1I) (o := bb4) fun x => sa6 (.s .p (.s .p (.s .p (.s .p (.s (.s .p (.b (.u yb6.ls))) .p))))) [yb6.pr] (by kernel_rfl) (.cons Rc8 .nil) (by kernel_rfl)
noncomputable def bc4 : List (Nat × Sum) := [(98, ka9), (124, fc8)]
theorem Rc9 : i6 prog G bc4 := ⟨ra3, zc8, trivial⟩
structure aa5 where
 is4 : Int
structure A5 where
 ph : Nat
 is6 : Int
 e8 : List Int
 b9 : Int
 ns5 : Nat
 eh1 : List (List b7)
noncomputable def wc1 (p : aa5) (s : A5) : St := ⟨(ra 3 ((.ptr 0 0 0 0) :: ((i p.is4) :: ((.v (.slice none 0 0)) :: ((i s.is6) :: (ra 127 [])))))), [⟨0, 2, [[(eL tI s.e8), (i s.b9)]], true, false, 0⟩]⟩
noncomputable def wc2 (p : aa5) (s : A5) : St := ⟨(ra 3 ((.ptr 0 0 0 0) :: ((i p.is4) :: ((.sl 1 0 s.ns5 0) :: ((i s.is6) :: (ra 127 [])))))), [⟨0, 2, [[(eL tI s.e8), (i s.b9)]], true, false, 0⟩, ⟨36, 3, s.eh1, true, false, 0⟩]⟩
noncomputable def Ec3 (p : aa5) (s : A5) : St := (sel (Nat.beq s.ph 1) (wc2 p s) (wc1 p s))
noncomputable def ra4 {α : Type} (k : A5 → α) (e : Nat → α) (z : α) (p : aa5) (s : A5) : α := let t1 := (l4 ⟨17, (rt tI s.e8), s.b9⟩); let t2 := (l4 ⟨17, (rt tI (rt tI s.e8)), t1.b9⟩); let t3 := (l4 ⟨17, (rt tI (rt tI (rt tI s.e8))), t2.b9⟩); let t4 := (l4 ⟨6, (rt tI (rt tI (rt tI (rt tI s.e8)))), t3.b9⟩); (sl (decide (s.is6 < p.is4)) (sl ((cnE tI s.e8) && true) (sl (Nat.beq t1.alt 1) (sl ((cnE tI (rt tI s.e8)) && true) (sl (Nat.beq t2.alt 1) (sl ((cnE tI (rt tI (rt tI s.e8))) && true) (sl (Nat.beq t3.alt 1) (sl ((cnE tI (rt tI (rt tI (rt tI s.e8)))) && true) (sl (Nat.beq t4.alt 1) (sl (t4.is0 == 1) (sl (decide (s.is6 > 1)) z (sl (t4.is0 == 2) (sl (decide (s.is6 > 0)) z (sl (t4.is0 == 3) (sl (decide (s.is6 > 2)) z (k ⟨1, (W (s.is6 + 1)), (rt tI (rt tI (rt tI (rt tI s.e8)))), t4.b9, 1, [[(i (W (t1.is0 - 8))), (i (W (t2.is0 - 8))), (i (W (t3.is0 - 8)))]]⟩)) (k ⟨1, (W (s.is6 + 1)), (rt tI (rt tI (rt tI (rt tI s.e8)))), t4.b9, 1, [[(i (W (t1.is0 - 8))), (i (W (t2.is0 - 8))), (i (W (t3.is0 - 8)))]]⟩))) (sl (t4.is0 == 3) (sl (decide (s.is6 > 2)) z (k ⟨1, (W (s.is6 + 1)), (rt tI (rt tI (rt tI (rt tI s.e8)))), t4.b9, 1, [[(i (W (t1.is0 - 8))), (i (W (t2.is0 - 8))), (i (W (t3.is0 - 8)))]]⟩)) (k ⟨1, (W (s.is6 + 1)), (rt tI (rt tI (rt tI (rt tI s.e8)))), t4.b9, 1, [[(i (W (t1.is0 - 8))), (i (W (t2.is0 - 8))), (i (W (t3.is0 - 8)))]]⟩)))) (sl (t4.is0 == 2) (sl (decide (s.is6 > 0)) z (sl (t4.is0 == 3) (sl (decide (s.is6 > 2)) z (k ⟨1, (W (s.is6 + 1)), (rt tI (rt tI (rt tI (rt tI s.e8)))), t4.b9, 1, [[(i (W (t1.is0 - 8))), (i (W (t2.is0 - 8))), (i (W (t3.is0 - 8)))]]⟩)) (k ⟨1, (W (s.is6 + 1)), (rt tI (rt tI (rt tI (rt tI s.e8)))), t4.b9, 1, [[(i (W (t1.is0 - 8))), (i (W (t2.is0 - 8))), (i (W (t3.is0 - 8)))]]⟩))) (sl (t4.is0 == 3) (sl (decide (s.is6 > 2)) z (k ⟨1, (W (s.is6 + 1)), (rt tI (rt tI (rt tI (rt tI s.e8)))), t4.b9, 1, [[(i (W (t1.is0 - 8))), (i (W (t2.is0 - 8))), (i (W (t3.is0 - 8)))]]⟩)) (k ⟨1, (W (s.is6 + 1)), (rt tI (rt tI (rt tI (rt tI s.e8)))), t4.b9, 1, [[(i (W (t1.is0 - 8))), (i (W (t2.is0 - 8))), (i (W (t3.is0 - 8)))]]⟩)))) z) z) z) z) z) z) z) z) (e 1))
noncomputable def K9 {α : Type} (k : A5 → α) (e : Nat → α) (z : α) (p : aa5) (s : A5) : α := let t1 := (l4 ⟨17, (rt tI s.e8), s.b9⟩); let a0 := (f7 s.eh1 (0 + (W (s.is6 - 1)).toNat)); let a1 := (Nat.beq s.ns5 (len s.eh1) && Nat.ble ((s.ns5 + 1) * 24) room); let a3 := (e7 (f7 s.eh1 (0 + (W (s.is6 - 2)).toNat)) 0); let a4 := ((Nat.blt (0 + (W (s.is6 - 1)).toNat) (len s.eh1)) && (Nat.ble (2 + 1) (len a0))); let a5 := (i (W (Int.tdiv (W ((toI (hdA (tlA (e7 a0 0)))) + (toI (hdA (tlA a3))))) 2))); let a6 := (i (W (Int.tdiv (W ((toI (hdA (e7 a0 0))) + (toI (hdA a3)))) 2))); let a7 := (app s.eh1 [[a6, a5, (i (W (Int.tdiv (W ((toI (hdA (tlA (tlA (e7 a0 0))))) + (toI (hdA (tlA (tlA a3)))))) 2)))]]); let a8 := (inB (W (s.is6 - 1)) s.ns5); let a9 := (i (toI (hdA (tlA (e7 a0 0))))); let a10 := ((Nat.blt (0 + (W (s.is6 - 1)).toNat) (len s.eh1)) && (Nat.ble (0 + 3) (len a0))); let a11 := (i (toI (hdA (e7 a0 0)))); let a12 := (app s.eh1 [[a11, a9, (i (toI (hdA (tlA (tlA (e7 a0 0))))))]]); let a13 := (i (toI (hdA (e7 a0 2)))); let a14 := (rt tI (rt tI s.e8)); let t2 := (l4 ⟨17, a14, t1.b9⟩); let t3 := (l4 ⟨17, (rt tI a14), t2.b9⟩); let a2 := (rt tI (rt tI a14)); let t4 := (l4 ⟨6, a2, t3.b9⟩); (sl (decide (s.is6 < p.is4)) (sl ((cnE tI s.e8) && true) (sl (Nat.beq t1.alt 1) (sl ((cnE tI (rt tI s.e8)) && true) (sl (Nat.beq t2.alt 1) (sl ((cnE tI a14) && true) (sl (Nat.beq t3.alt 1) (sl ((cnE tI (rt tI a14)) && true) (sl (Nat.beq t4.alt 1) (sl (t4.is0 == 1) (sl (decide (s.is6 > 1)) (sl a8 (sl (a10 && (J8 [(CK.int .i64), (CK.int .i64), (CK.int .i64)] (e7 a0 0))) (sl (inB (W (s.is6 - 2)) s.ns5) (sl (((Nat.blt (0 + (W (s.is6 - 2)).toNat) (len s.eh1)) && (Nat.ble (0 + 3) (len (f7 s.eh1 (0 + (W (s.is6 - 2)).toNat))))) && (J8 [(CK.int .i64), (CK.int .i64), (CK.int .i64)] a3)) (sl (t4.is0 == 2) (sl (decide (s.is6 > 0)) (sl a8 (sl (a10 && (J8 [(CK.int .i64), (CK.int .i64), (CK.int .i64)] (e7 a0 0))) (sl (t4.is0 == 3) (sl (decide (s.is6 > 2)) (sl a8 (sl (a4 && (J8 [(CK.int .i64)] (e7 a0 2))) (sl a1 (k ⟨1, (W (s.is6 + 1)), a2, t4.b9, (s.ns5 + 1), (app s.eh1 [[a11, a9, a13]])⟩) z) z) z) (sl a1 (k ⟨1, (W (s.is6 + 1)), a2, t4.b9, (s.ns5 + 1), a12⟩) z)) (sl a1 (k ⟨1, (W (s.is6 + 1)), a2, t4.b9, (s.ns5 + 1), a12⟩) z)) z) z) (sl (t4.is0 == 3) (sl (decide (s.is6 > 2)) (sl a8 (sl (a4 && (J8 [(CK.int .i64)] (e7 a0 2))) (sl a1 (k ⟨1, (W (s.is6 + 1)), a2, t4.b9, (s.ns5 + 1), (app s.eh1 [[a6, a5, a13]])⟩) z) z) z) (sl a1 (k ⟨1, (W (s.is6 + 1)), a2, t4.b9, (s.ns5 + 1), a7⟩) z)) (sl a1 (k ⟨1, (W (s.is6 + 1)), a2, t4.b9, (s.ns5 + 1), a7⟩) z))) (sl (t4.is0 == 3) (sl (decide (s.is6 > 2)) (sl a8 (sl (a4 && (J8 [(CK.int .i64)] (e7 a0 2))) (sl a1 (k ⟨1, (W (s.is6 + 1)), a2, t4.b9, (s.ns5 + 1), (app s.eh1 [[a6, a5, a13]])⟩) z) z) z) (sl a1 (k ⟨1, (W (s.is6 + 1)), a2, t4.b9, (s.ns5 + 1), a7⟩) z)) (sl a1 (k ⟨1, (W (s.is6 + 1)), a2, t4.b9, (s.ns5 + 1), a7⟩) z))) z) z) z) z) (sl (t4.is0 == 2) (sl (decide (s.is6 > 0)) (sl a8 (sl (a10 && (J8 [(CK.int .i64), (CK.int .i64), (CK.int .i64)] (e7 a0 0))) (sl (t4.is0 == 3) (sl (decide (s.is6 > 2)) (sl a8 (sl (a4 && (J8 [(CK.int .i64)] (e7 a0 2))) (sl a1 (k ⟨1, (W (s.is6 + 1)), a2, t4.b9, (s.ns5 + 1), (app s.eh1 [[a11, a9, a13]])⟩) z) z) z) (sl a1 (k ⟨1, (W (s.is6 + 1)), a2, t4.b9, (s.ns5 + 1), a12⟩) z)) (sl a1 (k ⟨1, (W (s.is6 + 1)), a2, t4.b9, (s.ns5 + 1), a12⟩) z)) z) z) (sl (t4.is0 == 3) (sl (decide (s.is6 > 2)) (sl a8 (sl (a4 && (J8 [(CK.int .i64)] (e7 a0 2))) (sl a1 (k ⟨1, (W (s.is6 + 1)), a2, t4.b9, (s.ns5 + 1), (app s.eh1 [[(i (W (t1.is0 - 8))), (i (W (t2.is0 - 8))), a13]])⟩) z) z) z) (sl a1 (k ⟨1, (W (s.is6 + 1)), a2, t4.b9, (s.ns5 + 1), (app s.eh1 [[(i (W (t1.is0 - 8))), (i (W (t2.is0 - 8))), (i (W (t3.is0 - 8)))]])⟩) z)) (sl a1 (k ⟨1, (W (s.is6 + 1)), a2, t4.b9, (s.ns5 + 1), (app s.eh1 [[(i (W (t1.is0 - 8))), (i (W (t2.is0 - 8))), (i (W (t3.is0 - 8)))]])⟩) z))) (sl (t4.is0 == 3) (sl (decide (s.is6 > 2)) (sl a8 (sl (a4 && (J8 [(CK.int .i64)] (e7 a0 2))) (sl a1 (k ⟨1, (W (s.is6 + 1)), a2, t4.b9, (s.ns5 + 1), (app s.eh1 [[(i (W (t1.is0 - 8))), (i (W (t2.is0 - 8))), a13]])⟩) z) z) z) (sl a1 (k ⟨1, (W (s.is6 + 1)), a2, t4.b9, (s.ns5 + 1), (app s.eh1 [[(i (W (t1.is0 - 8))), (i (W (t2.is0 - 8))), (i (W (t3.is0 - 8)))]])⟩) z)) (sl a1 (k ⟨1, (W (s.is6 + 1)), a2, t4.b9, (s.ns5 + 1), (app s.eh1 [[(i (W (t1.is0 - 8))), (i (W (t2.is0 - 8))), (i (W (t3.is0 - 8)))]])⟩) z)))) (sl (t4.is0 == 2) (sl (decide (s.is6 > 0)) (sl a8 (sl (a10 && (J8 [(CK.int .i64), (CK.int .i64), (CK.int .i64)] (e7 a0 0))) (sl (t4.is0 == 3) (sl (decide (s.is6 > 2)) (sl a8 (sl (a4 && (J8 [(CK.int .i64)] (e7 a0 2))) (sl a1 (k ⟨1, (W (s.is6 + 1)), a2, t4.b9, (s.ns5 + 1), (app s.eh1 [[a11, a9, a13]])⟩) z) z) z) (sl a1 (k ⟨1, (W (s.is6 + 1)), a2, t4.b9, (s.ns5 + 1), a12⟩) z)) (sl a1 (k ⟨1, (W (s.is6 + 1)), a2, t4.b9, (s.ns5 + 1), a12⟩) z)) z) z) (sl (t4.is0 == 3) (sl (decide (s.is6 > 2)) (sl a8 (sl (a4 && (J8 [(CK.int .i64)] (e7 a0 2))) (sl a1 (k ⟨1, (W (s.is6 + 1)), a2, t4.b9, (s.ns5 + 1), (app s.eh1 [[(i (W (t1.is0 - 8))), (i (W (t2.is0 - 8))), a13]])⟩) z) z) z) (sl a1 (k ⟨1, (W (s.is6 + 1)), a2, t4.b9, (s.ns5 + 1), (app s.eh1 [[(i (W (t1.is0 - 8))), (i (W (t2.is0 - 8))), (i (W (t3.is0 - 8)))]])⟩) z)) (sl a1 (k ⟨1, (W (s.is6 + 1)), a2, t4.b9, (s.ns5 + 1), (app s.eh1 [[(i (W (t1.is0 - 8))), (i (W (t2.is0 - 8))), (i (W (t3.is0 - 8)))]])⟩) z))) (sl (t4.is0 == 3) (sl (decide (s.is6 > 2)) (sl a8 (sl (a4 && (J8 [(CK.int .i64)] (e7 a0 2))) (sl a1 (k ⟨1, (W (s.is6 + 1)), a2, t4.b9, (s.ns5 + 1), (app s.eh1 [[(i (W (t1.is0 - 8))), (i (W (t2.is0 - 8))), a13]])⟩) z) z) z) (sl a1 (k ⟨1, (W (s.is6 + 1)), a2, t4.b9, (s.ns5 + 1), (app s.eh1 [[(i (W (t1.is0 - 8))), (i (W (t2.is0 - 8))), (i (W (t3.is0 - 8)))]])⟩) z)) (sl a1 (k ⟨1, (W (s.is6 + 1)), a2, t4.b9, (s.ns5 + 1), (app s.eh1 [[(i (W (t1.is0 - 8))), (i (W (t2.is0 - 8))), (i (W (t3.is0 - 8)))]])⟩) z)))) z) z) z) z) z) z) z) z) (e 2))
noncomputable def Ka7 (p : aa5) (s : A5) : Stp A5 := (sel (Nat.beq s.ph 1) (K9 .next .exit .fail p s) (ra4 .next .exit .fail p s))
noncomputable def ob7 : Lo aa5 A5 := ⟨En bc4, 0, Te0, [1, 1, 1, 1, 0, 1, 4, 4], [3, 4, 5, 6], .p, [⟨(ru2 3 ((.s (.o (.ptr 0 0 0 0))) :: ((.s (.o (.int .i64))) :: ((.s (.o .nil)) :: ((.s (.o (.int .i64))) :: (ru2 127 [])))))), [⟨0, 2, true, (some [[(.c 1 (nL tI)), (.o (.int .i64))]])⟩], fun a H => (⟨(toI (slT a 4))⟩, ⟨0, (toI (slT a 6)), (rL tI (slT (rwT (elT H 0) 0) 0)), (toI (slT (rwT (elT H 0) 0) 1)), 0, []⟩)⟩, ⟨(ru2 3 ((.s (.o (.ptr 0 0 0 0))) :: ((.s (.o (.int .i64))) :: ((.s (.o (.sl 1 0 (some 0) none))) :: ((.s (.o (.int .i64))) :: (ru2 127 [])))))), [⟨0, 2, true, (some [[(.c 1 (nL tI)), (.o (.int .i64))]])⟩, ⟨36, 3, true, none⟩], fun a H => (⟨(toI (slT a 4))⟩, ⟨1, (toI (slT a 6)), (rL tI (slT (rwT (elT H 0) 0) 0)), (toI (slT (rwT (elT H 0) 0) 1)), (slN (slT a 5)), (elT H 1)⟩)⟩], Ka7, [(some 0, fun p s => ⟨(ra 3 ((.ptr 0 0 0 0) :: ((i p.is4) :: ((.v (.slice none 0 0)) :: ((i s.is6) :: (ra 11 ((i s.is6) :: ((i p.is4) :: ((b (decide (s.is6 < p.is4))) :: (ra 113 [])))))))))), [⟨0, 2, [[(eL tI s.e8), (i s.b9)]], true, false, 0⟩]⟩), (some 0, fun p s => ⟨(ra 3 ((.ptr 0 0 0 0) :: ((i p.is4) :: ((.sl 1 0 s.ns5 0) :: ((i s.is6) :: (ra 11 ((i s.is6) :: ((i p.is4) :: ((b (decide (s.is6 < p.is4))) :: (ra 113 [])))))))))), [⟨0, 2, [[(eL tI s.e8), (i s.b9)]], true, false, 0⟩, ⟨36, 3, s.eh1, true, false, 0⟩]⟩)], Ec3⟩
theorem Ec4 : ob7.Ok := Lo.ok [] (by kernel_rfl) .nil rfl (.cons (fun a H => by kernel_rfl) (.cons (fun a H => by kernel_rfl) .nil)) fun p s => (.sel (Nat.beq s.ph 1) (.of @K9 (fun F _ _ _ _ _ => by unfold K9; (repeat' apply k9 (f := F)) <;> rfl) (by kernel_rfl)) (.of @ra4 (fun F _ _ _ _ _ => by unfold ra4; (repeat' apply k9 (f := F)) <;> rfl) (by kernel_rfl)))
noncomputable def Sa5 (x : List Int) : Option (b7 × List b8) := let t1 := (l4 ⟨5, (rt tI x), 0⟩); let t2 := (lp (Ka7 (⟨(W (4 + t1.is0))⟩ : aa5)) (⟨0, 0, (rt tI (rt tI x)), t1.b9, 0, []⟩ : A5)); let t3 := (ob6 []); let t4 := (ob6 (lsL tV t2.2.ns5 (fun k => f7 t2.2.eh1 (0 + k)))); let a0 := (e7 (f7 t2.2.eh1 0) 0); let a1 := (i (toI (hdA (tlA (tlA a0))))); let a2 := (i (W ((toI (hdA a0)) - 3))); let a3 := (setAt t2.2.eh1 1 (M4 (f7 t2.2.eh1 1) 0 [a2, (i (toI (hdA (tlA a0)))), a1])); let a4 := (i (W ((toI (hdA (tlA a0))) - 2))); (sl ((cnE tI x) && true) (sl (Nat.beq t1.alt 1) (sl ((cnE tI (rt tI x)) && true) (sl (Nat.beq t2.1 1) (sl (Wa5 []) (sl t3 none (some ((.v (.slice none 0 0)), []))) none) (sl (Nat.beq t2.1 2) (sl (okL tV t2.2.ns5 (fun k => f7 t2.2.eh1 (0 + k))) (sl (Wa5 (lsL tV t2.2.ns5 (fun k => f7 t2.2.eh1 (0 + k)))) (sl t4 (sl (inB 0 t2.2.ns5) (sl (((Nat.blt 0 (len t2.2.eh1)) && (Nat.ble (0 + 3) (len (f7 t2.2.eh1 0)))) && (J8 [(CK.int .i64), (CK.int .i64), (CK.int .i64)] a0)) (sl (inB 1 t2.2.ns5) (sl ((Nat.blt 1 (len t2.2.eh1)) && (Nat.ble (0 + 3) (len (f7 t2.2.eh1 1)))) (sl (inB 2 t2.2.ns5) (sl ((Nat.blt 2 (len a3)) && (Nat.ble (0 + 3) (len (f7 a3 2)))) (sl (inB 3 t2.2.ns5) (sl ((Nat.blt 3 (len (setAt a3 2 (M4 (f7 a3 2) 0 [(i (toI (hdA a0))), a4, a1])))) && (Nat.ble (0 + 3) (len (f7 (setAt a3 2 (M4 (f7 a3 2) 0 [(i (toI (hdA a0))), a4, a1])) 3)))) (some ((.sl 0 0 t2.2.ns5 0), [⟨36, 3, (setAt (setAt a3 2 (M4 (f7 a3 2) 0 [(i (toI (hdA a0))), a4, a1])) 3 (M4 (f7 (setAt a3 2 (M4 (f7 a3 2) 0 [(i (toI (hdA a0))), a4, a1])) 3) 0 [(i (toI (hdA a0))), (i (toI (hdA (tlA a0)))), (i (W ((toI (hdA (tlA (tlA a0)))) - 1)))])), true, false, 0⟩])) none) none) none) none) none) none) none) none) (some ((.sl 0 0 t2.2.ns5 0), [⟨36, 3, t2.2.eh1, true, false, 0⟩]))) none) none) none)) none) none) none)
noncomputable def ta9 (x : List Int) : List V3 := K5 (one (r1L tV)) (Sa5 x)
noncomputable def Sa6 (x : List Int) : Bool := okO (one (r1L tV)) (Sa5 x)
noncomputable def oc7 : Sum := R3 (W7 tI) (fun x => .guard (Sa6 x) (.ret ((one (r1L tV)).enc (ta9 x), [])))
theorem bd2 : g9 prog G 46 oc7 := za1 (bd b46 Rc9) (one (r1L tV)) (o := Sa5) fun x => sa6 (.s .p (.s .p (.s .p (.s .p (.s (.s .p (.b (.u ob7.ls))) .p))))) [ob7.pr] (by kernel_rfl) (.cons Ec4 .nil) (by kernel_rfl)
end Go.Ev.Ce
end
section
namespace Go.Ev.Ce
open Go Go.Ev Go.Ev.L Go.Proofs
set_option maxRecDepth 100000
noncomputable def Ed0 : List (Nat × Sum) := [(98, ka9), (97, Wb5), (111, uc4), (35, Qc7), (21, ec4), (46, oc7), (112, Ac1)]
theorem rd6 : i6 prog G Ed0 := ⟨ra3, fc5, Nc3, Dd5, zc2, bd2, rd5, trivial⟩
noncomputable def ob8 (x : List Int) : Option (b7 × List b8) := let t1 := (l4 ⟨4, (rt tI x), 0⟩); let t2 := (Ea6 ⟨6, (rt tI (rt tI x)), t1.b9⟩); let t3 := (l4 ⟨6, (rt tI t2.e8), t2.b9⟩); let t4 := (l4 ⟨6, (rt tI (rt tI t2.e8)), t3.b9⟩); let t5 := (l4 ⟨6, (rt tI (rt tI (rt tI t2.e8))), t4.b9⟩); let t6 := (Ab5 (⟨t2.na5, t2.na6, t2.na7⟩ : V3) (⟨(W ((W (t2.na5 + 1)) + t3.is0)), (W ((W (t2.na6 + 1)) + t4.is0)), (W ((W (t2.na7 + 1)) + t5.is0))⟩ : V3)); let a0 := (if 7 < (↑(List.length x) : Int) then 7 else (↑(List.length x) : Int)); let a1 := (o7 (fun k => (tP).row (gL tP t6 k)) (List.range (List.length t6))); let a2 := (fun k => (fun k => (tI).row (gL tI x k)) (a0.toNat + k)); let a3 := ((List.length x) - a0.toNat); let t7 := (Qc6 (lsL tI a3 a2)); let t8 := (Va4 [t7]); let t9 := (ta9 (lsL tI a3 a2)); let t10 := (vb1 (rt tV t9)); let t11 := (Va4 (slR tP (app (app [] a1) [[(i t7.n.x), (i t7.n.y), (i t7.n.z), (i t7.b)]]) 0 ((0 + (len a1)) + 1))); (sl ((cnE tI x) && true) (sl (Nat.beq t1.alt 1) (sl ((cnE tI (rt tI x)) && true) (sl (Nat.beq t2.alt 1) (sl ((cnE tI t2.e8) && true) (sl (Nat.beq t3.alt 1) (sl ((cnE tI (rt tI t2.e8)) && true) (sl (Nat.beq t4.alt 1) (sl ((cnE tI (rt tI (rt tI t2.e8))) && true) (sl (Nat.beq t5.alt 1) (sl (kb0 (⟨t2.na5, t2.na6, t2.na7⟩ : V3) (⟨(W ((W (t2.na5 + 1)) + t3.is0)), (W ((W (t2.na6 + 1)) + t4.is0)), (W ((W (t2.na7 + 1)) + t5.is0))⟩ : V3)) (sl (inB a0 ((List.length x) + 1)) (sl (t1.is0 == 2) (sl (Nat.beq (len a1) 0) (sl (okL tI a3 a2) (sl (Hb0 (lsL tI a3 a2)) (sl (Ma0 [t7]) (sl t8 (some ((.sl 0 0 1 0), [⟨50, 4, [[(i t7.n.x), (i t7.n.y), (i t7.n.z), (i t7.b)]], true, false, 0⟩])) (sl (t1.is0 == 3) (sl (okL tI a3 a2) (sl (Sa6 (lsL tI a3 a2)) (sl (okE tV t9) (sl (Na8 (rt tV t9)) (sl (t10.2 == 0) (some ((eL tP t10.1), [])) (some ((eL tP t6), []))) none) none) none) none) (some ((eL tP t6), [])))) none) none) none) (sl (Nat.beq 0 0 && Nat.ble ((0 + (len a1)) * 32) room) (sl (okL tI a3 a2) (sl (Hb0 (lsL tI a3 a2)) (sl (Nat.beq (0 + (len a1)) (len (app [] a1)) && Nat.ble (((0 + (len a1)) + 1) * 32) room) (sl (okS tP (app (app [] a1) [[(i t7.n.x), (i t7.n.y), (i t7.n.z), (i t7.b)]]) 0 ((0 + (len a1)) + 1)) (sl (Ma0 (slR tP (app (app [] a1) [[(i t7.n.x), (i t7.n.y), (i t7.n.z), (i t7.b)]]) 0 ((0 + (len a1)) + 1))) (sl t11 (some ((.sl 0 0 ((0 + (len a1)) + 1) 0), [⟨50, 4, (app (app [] a1) [[(i t7.n.x), (i t7.n.y), (i t7.n.z), (i t7.b)]]), true, false, 0⟩])) (sl (t1.is0 == 3) (sl (okL tI a3 a2) (sl (Sa6 (lsL tI a3 a2)) (sl (okE tV t9) (sl (Na8 (rt tV t9)) (sl (t10.2 == 0) (some ((eL tP t10.1), [])) (some ((eL tP t6), []))) none) none) none) none) (some ((eL tP t6), [])))) none) none) none) none) none) none)) (sl (t1.is0 == 3) (sl (okL tI a3 a2) (sl (Sa6 (lsL tI a3 a2)) (sl (okE tV t9) (sl (Na8 (rt tV t9)) (sl (t10.2 == 0) (some ((eL tP t10.1), [])) (some ((eL tP t6), []))) none) none) none) none) (some ((eL tP t6), [])))) none) none) none) none) none) none) none) none) none) none) none) none)
noncomputable def ha9 (x : List Int) : List Pln := K5 (one (r1L tP)) (ob8 x)
noncomputable def fc9 (x : List Int) : Bool := okO (one (r1L tP)) (ob8 x)
noncomputable def Sc0 : Sum := R3 (W7 tI) (fun x => .guard (fc9 x) (.ret ((one (r1L tP)).enc (ha9 x), [])))
theorem Ed1 : g9 prog G 30 Sc0 := za1 (bd b30 rd6) (one (r1L tP)) (o := ob8) fun x => r9 (by kernel_rfl)
noncomputable def rd7 : List (Nat × Sum) := []
theorem bd3 : i6 prog G rd7 := trivial
noncomputable def bb5 (x : List Pln) : Option (b7 × List b8) := (sl (inB (if 8 < (↑(List.length x) : Int) then 8 else (↑(List.length x) : Int)) ((List.length x) + 1)) (some ((.tree 4 ((if 8 < (↑(List.length x) : Int) then 8 else (↑(List.length x) : Int)).toNat - 0) (fun k => (fun k => (tP).row (gL tP x k)) (0 + k))), [])) none)
noncomputable def vb2 (x : List Pln) : List Pln := K5 (one (r1L tP)) (bb5 x)
noncomputable def Sb5 (x : List Pln) : Bool := okO (one (r1L tP)) (bb5 x)
noncomputable def Ac2 : Sum := R3 (W7 tP) (fun x => .guard (Sb5 x) (.ret ((one (r1L tP)).enc (vb2 x), [])))
theorem rd8 : g9 prog G 82 Ac2 := za1 (bd b82 bd3) (one (r1L tP)) (o := bb5) fun x => r9 (by kernel_rfl)
noncomputable def vb3 : List (Nat × Sum) := []
theorem gc0 : i6 prog G vb3 := trivial
structure ia0 where
 B3 : List Pt
 Vc8 : List Pt
structure E1 where
 is5 : Int
noncomputable def Zb0 (p : ia0) (s : E1) : St := ⟨((eL tX p.B3) :: ((eL tX p.Vc8) :: (ra 3 ((i s.is5) :: (ra 20 []))))), []⟩
noncomputable def aa6 {α : Type} (k : E1 → α) (e : Nat → α) (z : α) (p : ia0) (s : E1) : α := (sl (decide (s.is5 < (↑(List.length p.B3) : Int))) (sl (inB s.is5 (List.length p.B3)) (sl (inB s.is5 (List.length p.Vc8)) (sl (!(((gL tX p.B3 s.is5.toNat).px == (gL tX p.Vc8 s.is5.toNat).px) && (((gL tX p.B3 s.is5.toNat).py == (gL tX p.Vc8 s.is5.toNat).py) && (((gL tX p.B3 s.is5.toNat).pz == (gL tX p.Vc8 s.is5.toNat).pz) && (((gL tX p.B3 s.is5.toNat).pw == (gL tX p.Vc8 s.is5.toNat).pw) && true))))) (e 1) (k ⟨(W (s.is5 + 1))⟩)) z) z) (e 2))
noncomputable def da3 (p : ia0) (s : E1) : Stp E1 := aa6 .next .exit .fail p s
noncomputable def Ma2 : Lo ia0 E1 := ⟨En vb3, 0, Se5, [1, 1, 0, 1, 4, 4], [0, 1, 5], .p, [⟨((.s (.c 4 (nL tX))) :: ((.s (.c 4 (nL tX))) :: (ru2 3 ((.s (.o (.int .i64))) :: (ru2 20 []))))), [], fun a H => (⟨(rL tX (slT a 0)), (rL tX (slT a 1))⟩, ⟨(toI (slT a 5))⟩)⟩], da3, [(none, fun p s => ⟨[(b false)], []⟩), (some 0, fun p s => ⟨((eL tX p.B3) :: ((eL tX p.Vc8) :: (ra 3 ((i s.is5) :: (ra 5 ((i s.is5) :: ((eL tX p.B3) :: ((i (↑(List.length p.B3) : Int)) :: ((b (decide (s.is5 < (↑(List.length p.B3) : Int)))) :: (ra 11 [])))))))))), []⟩)], Zb0⟩
theorem Zb1 : Ma2.Ok := Lo.ok [] (by kernel_rfl) .nil rfl (.cons (fun a H => by kernel_rfl) .nil) fun p s => (.of @aa6 (fun F _ _ _ _ _ => by unfold aa6; (repeat' apply k9 (f := F)) <;> rfl) (by kernel_rfl))
noncomputable def ra5 (x : List Pt) (y : List Pt) : Option (b7 × List b8) := let t1 := (lp (da3 (⟨(rt tX x), (rt tX y)⟩ : ia0)) (⟨0⟩ : E1)); (sl ((↑(List.length x) : Int) != (↑(List.length y) : Int)) (some ((b false), [])) (sl ((cnE tX x) && ((cnE tX y) && true)) (sl (Nat.beq t1.1 1) (some ((b false), [])) (sl (Nat.beq t1.1 2) (some ((b true), [])) none)) none))
noncomputable def ra6 (x : List Pt) (y : List Pt) : Bool := K5 (one r1B) (ra5 x y)
noncomputable def ra7 (x : List Pt) (y : List Pt) : Bool := okO (one r1B) (ra5 x y)
noncomputable def Cb0 : Sum := oa1 (W7 tX) (W7 tX) (fun x y => .guard (ra7 x y) (.ret ((one r1B).enc (ra6 x y), [])))
theorem oc8 : g9 prog G 17 Cb0 := gb5 (bd b17 gc0) (one r1B) (o := ra5) fun x y => sa6 (.s .p (.s .p (.s (.s .p (.b (.u Ma2.ls))) .p))) [Ma2.pr] (by kernel_rfl) (.cons Zb1 .nil) (by kernel_rfl)
noncomputable def Ac3 : List (Nat × Sum) := []
theorem rd9 : i6 prog G Ac3 := trivial
structure Sa7 where
 c7 : List Pln
 Bc1 : List Pln
structure fa1 where
 is5 : Int
noncomputable def bd4 (p : Sa7) (s : fa1) : St := ⟨((eL tP p.c7) :: ((eL tP p.Bc1) :: (ra 3 ((i s.is5) :: (ra 20 []))))), []⟩
noncomputable def Ca7 {α : Type} (k : fa1 → α) (e : Nat → α) (z : α) (p : Sa7) (s : fa1) : α := (sl (decide (s.is5 < (↑(List.length p.c7) : Int))) (sl (inB s.is5 (List.length p.c7)) (sl (inB s.is5 (List.length p.Bc1)) (sl (!(((gL tP p.c7 s.is5.toNat).n.x == (gL tP p.Bc1 s.is5.toNat).n.x) && (((gL tP p.c7 s.is5.toNat).n.y == (gL tP p.Bc1 s.is5.toNat).n.y) && (((gL tP p.c7 s.is5.toNat).n.z == (gL tP p.Bc1 s.is5.toNat).n.z) && (((gL tP p.c7 s.is5.toNat).b == (gL tP p.Bc1 s.is5.toNat).b) && true))))) (e 1) (k ⟨(W (s.is5 + 1))⟩)) z) z) (e 2))
noncomputable def Ia7 (p : Sa7) (s : fa1) : Stp fa1 := Ca7 .next .exit .fail p s
noncomputable def Hb8 : Lo Sa7 fa1 := ⟨En Ac3, 0, Se8, [1, 1, 0, 1, 4, 4], [0, 1, 5], .p, [⟨((.s (.c 4 (nL tP))) :: ((.s (.c 4 (nL tP))) :: (ru2 3 ((.s (.o (.int .i64))) :: (ru2 20 []))))), [], fun a H => (⟨(rL tP (slT a 0)), (rL tP (slT a 1))⟩, ⟨(toI (slT a 5))⟩)⟩], Ia7, [(none, fun p s => ⟨[(b false)], []⟩), (some 0, fun p s => ⟨((eL tP p.c7) :: ((eL tP p.Bc1) :: (ra 3 ((i s.is5) :: (ra 5 ((i s.is5) :: ((eL tP p.c7) :: ((i (↑(List.length p.c7) : Int)) :: ((b (decide (s.is5 < (↑(List.length p.c7) : Int)))) :: (ra 11 [])))))))))), []⟩)], bd4⟩
theorem bd5 : Hb8.Ok := Lo.ok [] (by kernel_rfl) .nil rfl (.cons (fun a H => by kernel_rfl) .nil) fun p s => (.of @Ca7 (fun F _ _ _ _ _ => by unfold Ca7; (repeat' apply k9 (f := F)) <;> rfl) (by kernel_rfl))
noncomputable def ob9 (x : List Pln) (y : List Pln) : Option (b7 × List b8) := let t1 := (lp (Ia7 (⟨(rt tP x), (rt tP y)⟩ : Sa7)) (⟨0⟩ : fa1)); (sl ((↑(List.length x) : Int) != (↑(List.length y) : Int)) (some ((b false), [])) (sl ((cnE tP x) && ((cnE tP y) && true)) (sl (Nat.beq t1.1 1) (some ((b false), [])) (sl (Nat.beq t1.1 2) (some ((b true), [])) none)) none))
noncomputable def pb0 (x : List Pln) (y : List Pln) : Bool := K5 (one r1B) (ob9 x y)
noncomputable def pb1 (x : List Pln) (y : List Pln) : Bool := okO (one r1B) (ob9 x y)
noncomputable def gc1 : Sum := oa1 (W7 tP) (W7 tP) (fun x y => .guard (pb1 x y) (.ret ((one r1B).enc (pb0 x y), [])))
theorem Ac4 : g9 prog G 26 gc1 := gb5 (bd b26 rd9) (one r1B) (o := ob9) fun x y => sa6 (.s .p (.s .p (.s (.s .p (.b (.u Hb8.ls))) .p))) [Hb8.pr] (by kernel_rfl) (.cons bd5 .nil) (by kernel_rfl)
noncomputable def Sc1 : List (Nat × Sum) := [(47, Bb0), (118, id7), (119, fc6)]
theorem Ed2 : i6 prog G Sc1 := ⟨Fb8, Od5, zc6, trivial⟩
structure bb6 where
 is6 : Int
structure ta0 where
 ns5 : Nat
 eh0 : List (List b7)
noncomputable def sd0 (p : bb6) (s : ta0) : St := ⟨(ra 5 ((.sl 0 0 s.ns5 0) :: ((i p.is6) :: (ra 91 [])))), [⟨50, 4, s.eh0, true, false, 0⟩]⟩
noncomputable def Xa9 {α : Type} (k : ta0 → α) (e : Nat → α) (z : α) (p : bb6) (s : ta0) : α := (sl (decide ((↑s.ns5 : Int) ≤ 48)) (sl (inB p.is6 s.ns5) (sl (ldR tP s.eh0 (0 + p.is6.toNat)) (sl (Nat.beq s.ns5 (len s.eh0) && Nat.ble ((s.ns5 + 1) * 32) room) (k ⟨(s.ns5 + 1), (app s.eh0 [[(i (rdR tP s.eh0 (0 + p.is6.toNat)).n.x), (i (rdR tP s.eh0 (0 + p.is6.toNat)).n.y), (i (rdR tP s.eh0 (0 + p.is6.toNat)).n.z), (i (rdR tP s.eh0 (0 + p.is6.toNat)).b)]])⟩) z) z) z) (e 1))
noncomputable def Sa8 (p : bb6) (s : ta0) : Stp ta0 := Xa9 .next .exit .fail p s
noncomputable def Sb6 : Lo bb6 ta0 := ⟨En Sc1, 0, Se9, [1, 1, 1, 1, 0, 1, 4, 1, 3, 1, 3, 1, 3, 1, 3, 1, 3, 1, 2, 4, 4], [5, 6], .p, [⟨(ru2 5 ((.s (.o (.sl 0 0 (some 0) none))) :: ((.s (.o (.int .i64))) :: (ru2 91 [])))), [⟨50, 4, true, none⟩], fun a H => (⟨(toI (slT a 6))⟩, ⟨(slN (slT a 5)), (elT H 0)⟩)⟩], Sa8, [(some 1, fun p s => ⟨(ra 5 ((.sl 0 0 s.ns5 0) :: ((i p.is6) :: (ra 80 ((.sl 0 0 s.ns5 0) :: ((i (↑s.ns5 : Int)) :: ((b (decide ((↑s.ns5 : Int) ≤ 48))) :: (ra 8 [])))))))), [⟨50, 4, s.eh0, true, false, 0⟩]⟩)], sd0⟩
theorem sd1 : Sb6.Ok := Lo.ok [] (by kernel_rfl) .nil rfl (.cons (fun a H => by kernel_rfl) .nil) fun p s => (.of @Xa9 (fun F _ _ _ _ _ => by unfold Xa9; (repeat' apply k9 (f := F)) <;> rfl) (by kernel_rfl))
noncomputable def Cb1 (x : List Pln) (y : V3) : Option (b7 × List b8) := let t2 := (wa7 y.x 6); let t5 := (wa7 y.z 9); let a0 := (o7 (fun k => (tP).row (gL tP x k)) (List.range (List.length x))); let t1 := (wa7 y.y (↑(0 + (len a0)) : Int)); let t6 := (lp (Sa8 (⟨t1⟩ : bb6)) (⟨(0 + (len a0)), (app [] a0)⟩ : ta0)); let a1 := (G6 (e7 (app [] a0) (0 + (W (t1 + 1)).toNat)) ((0 + (len a0)) - (W (t1 + 1)).toNat)); let a2 := (f7 (app [] a0) (0 + t1.toNat)); let a3 := (rdR tP (app [] a0) (0 + t1.toNat)); let t3 := (id6 a3 (⟨y.z, y.y, y.x⟩ : V3)); let t4 := (Hb1 a3); let a4 := (Nat.blt (0 + t1.toNat) (len (app [] a0))); (sl (Nat.beq (len a0) 0) (some ((.sl 0 0 1 0), [⟨50, 4, [[(i 0), (i 0), (i 0), (i 0)]], true, false, 0⟩])) (sl (Nat.beq 0 0 && Nat.ble ((0 + (len a0)) * 32) room) (sl ((↑(0 + (len a0)) : Int) == 0) (some ((.sl 0 0 1 0), [⟨50, 4, [[(i 0), (i 0), (i 0), (i 0)]], true, false, 0⟩])) (sl (qa1 y.y (↑(0 + (len a0)) : Int)) (sl (qa1 y.x 6) (sl (t2 == 0) (sl (inB t1 (0 + (len a0))) (sl (ldR tP (app [] a0) (0 + t1.toNat)) (sl (wc0 a3 (⟨y.z, y.y, y.x⟩ : V3)) (sl (inB t1 (0 + (len a0))) (sl (a4 && (Nat.ble (0 + 4) (len a2))) (some ((.sl 0 0 (0 + (len a0)) 0), [⟨50, 4, (setAt (app [] a0) (0 + t1.toNat) (M4 a2 0 [(i t3.n.x), (i t3.n.y), (i t3.n.z), (i t3.b)])), true, false, 0⟩])) none) none) none) none) none) (sl (t2 == 1) (sl (inB t1 ((0 + (len a0)) + 1)) (sl (inB (W (t1 + 1)) ((0 + (len a0)) + 1)) (sl (Nat.ble ((t1.toNat - 0) + (len a1)) (len (app [] a0))) (some ((.sl 0 0 ((t1.toNat - 0) + (len a1)) 0), [⟨50, 4, (app (G6 (app [] a0) (t1.toNat - 0)) (app a1 (e7 (app [] a0) ((t1.toNat - 0) + (len a1))))), true, false, 0⟩])) none) none) none) (sl (t2 == 2) (sl (inB t1 (0 + (len a0))) (sl (ldR tP (app [] a0) (0 + t1.toNat)) (sl (inB t1 (0 + (len a0))) (sl (a4 && (Nat.ble (0 + 4) (len a2))) (some ((.sl 0 0 (0 + (len a0)) 0), [⟨50, 4, (setAt (app [] a0) (0 + t1.toNat) (M4 a2 0 [(i t4.n.x), (i t4.n.y), (i t4.n.z), (i t4.b)])), true, false, 0⟩])) none) none) none) none) (sl (t2 == 3) (sl (inB t1 (0 + (len a0))) (sl (ldR tP (app [] a0) (0 + t1.toNat)) (sl (Nat.beq (0 + (len a0)) (len (app [] a0)) && Nat.ble (((0 + (len a0)) + 1) * 32) room) (some ((.sl 0 0 ((0 + (len a0)) + 1) 0), [⟨50, 4, (app (app [] a0) [[(i a3.n.x), (i a3.n.y), (i a3.n.z), (i a3.b)]]), true, false, 0⟩])) none) none) none) (sl (t2 == 4) (sl (inB t1 (0 + (len a0))) (sl ((a4 && (Nat.ble (3 + 1) (len a2))) && (J8 [(CK.int .i64)] (e7 a2 3))) (sl (qa1 y.z 9) (sl (inB t1 (0 + (len a0))) (sl (a4 && (Nat.ble (3 + 1) (len a2))) (some ((.sl 0 0 (0 + (len a0)) 0), [⟨50, 4, (setAt (app [] a0) (0 + t1.toNat) (M4 a2 3 [(i (W ((W ((toI (hdA (e7 a2 3))) + t5)) - 4)))])), true, false, 0⟩])) none) none) none) none) none) (sl (t2 == 5) (sl (Nat.beq t6.1 1) (some ((.sl 0 0 t6.2.ns5 0), [⟨50, 4, t6.2.eh0, true, false, 0⟩])) none) (some ((.sl 0 0 (0 + (len a0)) 0), [⟨50, 4, (app [] a0), true, false, 0⟩])))))))) none) none)) none))
noncomputable def Ea8 (x : List Pln) (y : V3) : List Pln := K5 (one (r1L tP)) (Cb1 x y)
noncomputable def Cb2 (x : List Pln) (y : V3) : Bool := okO (one (r1L tP)) (Cb1 x y)
noncomputable def id9 : Sum := oa1 (W7 tP) (R4 tV) (fun x y => .guard (Cb2 x y) (.ret ((one (r1L tP)).enc (Ea8 x y), [])))
theorem Od7 : g9 prog G 39 id9 := gb5 (bd b39 Ed2) (one (r1L tP)) (o := Cb1) fun x y => sa6 (.s .p (.s .p (.s .p (.s .p (.s (.s .p (.b (.s .p (.c .p (.s .p (.c .p (.s .p (.c .p (.s .p (.c .p (.s .p (.c .p (.s .p (.c (.b (.u Sb6.ls)) .p)))))))))))))) .p))))) [Sb6.pr] (by kernel_rfl) (.cons sd1 .nil) (by kernel_rfl)
noncomputable def Sc2 : List (Nat × Sum) := [(30, Sc0), (39, id9), (82, Ac2)]
theorem Ec5 : i6 prog G Sc2 := ⟨Ed1, Od7, rd8, trivial⟩
noncomputable def Ia8 (x : List Int) (y : Q2) (z : List Pln) : Option (b7 × List b8) := let t1 := (ha9 (rt tI x)); let t2 := (Ea8 (rt tP t1) y.a); let t3 := (Ea8 (rt tP t2) y.b); let t4 := (vb2 (rt tP z)); (sl (okE tI x) (sl (fc9 (rt tI x)) (sl (okE tP t1) (sl (Cb2 (rt tP t1) y.a) (sl (okE tP t1) (sl (Cb2 (rt tP t1) y.a) (sl (okE tP t2) (sl (Cb2 (rt tP t2) y.b) (sl (okE tP z) (sl (Sb5 (rt tP z)) (some ((.sl 0 0 4 0), [⟨25, 1, [[(eL tP t1)], [(eL tP t2)], [(eL tP t3)], [(eL tP t4)]], true, false, 0⟩])) none) none) none) none) none) none) none) none) none) none)
noncomputable def yb7 (x : List Int) (y : Q2) (z : List Pln) : List (List Pln) := K5 (one (r1L (tLs tP))) (Ia8 x y z)
noncomputable def yb8 (x : List Int) (y : Q2) (z : List Pln) : Bool := okO (one (r1L (tLs tP))) (Ia8 x y z)
noncomputable def bc5 : Sum := Wc4 (W7 tI) (R4 tQ) (W7 tP) (fun x y z => .guard (yb8 x y z) (.ret ((one (r1L (tLs tP))).enc (yb7 x y z), [])))
theorem Sc3 : g9 prog G 14 bc5 := Je8 (bd b14 Ec5) (one (r1L (tLs tP))) (o := Ia8) fun x y z => r9 (by kernel_rfl)
end Go.Ev.Ce
end
namespace Go.Ev.Ce
open Go Go.Ev Go.Ev.L Go.Proofs
theorem Ed3 {Q : Pt → Prop} (r : List Pln) (p q : Pln) : ∀ (l : List Pln) (out : List Pt), (∀ s ∈ l, (mpt p q s).2 = true → inn r (mpt p q s).1 = true → Q (mpt p q s).1) → (∀ x ∈ out, Q x) → ∀ x ∈ nb8 r p q l out, Q x
 | [], out, _, h => h
 | s :: l, out, hs, h => Ed3 r p q l (Ba8 r p q out s) (fun t ht => hs t (List.mem_cons_of_mem _ ht)) fun x hx => by
  unfold Ba8 at hx
  split at hx
  ·rename_i hc
   rw [Bool.and_eq_true, Bool.and_eq_true] at hc
   rcases List.mem_append.1 hx with hx | hx
   ·exact h x hx
   ·rw [List.mem_singleton] at hx
    subst hx
    exact hs s List.mem_cons_self hc.1 hc.2.2
  ·exact h x hx
theorem Ed4 {Q : Pt → Prop} (r : List Pln) (p : Pln) : ∀ (l : List Pln) (out : List Pt), (∀ q ∈ l, ∀ s ∈ l, (mpt p q s).2 = true → inn r (mpt p q s).1 = true → Q (mpt p q s).1) → (∀ x ∈ out, Q x) → ∀ x ∈ nb9 r p l out, Q x
 | [], out, _, h => h
 | q :: l, out, hs, h => Ed4 r p l _ (fun a ha t ht => hs a (List.mem_cons_of_mem _ ha) t (List.mem_cons_of_mem _ ht)) (Ed3 r p q l out (fun t ht => hs q List.mem_cons_self t (List.mem_cons_of_mem _ ht)) h)
theorem Ed5 {Q : Pt → Prop} (r : List Pln) : ∀ (l : List Pln) (out : List Pt), (∀ p ∈ l, ∀ q ∈ l, ∀ s ∈ l, (mpt p q s).2 = true → inn r (mpt p q s).1 = true → Q (mpt p q s).1) → (∀ x ∈ out, Q x) → ∀ x ∈ Zc7 r l out, Q x
 | [], out, _, h => h
 | p :: l, out, hs, h => Ed5 r l _ (fun a ha c hc t ht => hs a (List.mem_cons_of_mem _ ha) c (List.mem_cons_of_mem _ hc) t (List.mem_cons_of_mem _ ht)) (Ed4 r p l out (fun c hc t ht => hs p List.mem_cons_self c (List.mem_cons_of_mem _ hc) t (List.mem_cons_of_mem _ ht)) h)
theorem Td5 {Q : Pt → Prop} {r : List Pln} (hs : ∀ p ∈ r, ∀ q ∈ r, ∀ s ∈ r, (mpt p q s).2 = true → inn r (mpt p q s).1 = true → Q (mpt p q s).1) : ∀ x ∈ cor r, Q x :=
 Ed5 r r [] hs fun x hx => by cases hx
structure Okx (x : Pt) : Prop where
 w1 : 0 < x.pw
 w2 : x.pw ≤ 600000000000
 c1 : Sm 300000000000000 x.px
 c2 : Sm 300000000000000 x.py
 c3 : Sm 300000000000000 x.pz
theorem Wb7 {r : List Pln} (hb : Bds r) : ∀ x ∈ cor r, Okx x := Td5 fun p hp q hq s hs h _ => by
 obtain ⟨h1, h2, h3, h4, h5⟩ := Nd8 (hb p hp) (hb q hq) (hb s hs) h
 exact ⟨h1, h5, h2, h3, h4⟩
theorem ze6 {c : List Pln} : ∀ x ∈ pts c, Okx x := by
 unfold pts
 cases h : chk c == 0 with
 | false => intro x hx; cases hx
 | true => exact Wb7 (vb0 h).1
theorem oc9 (c : List Pln) : (pts c).length ≤ 8000000 := by
 unfold pts
 cases h : chk c == 0 with
 | false => exact Nat.zero_le _
 | true => exact qd3 _ (vb0 h).1 (vb0 h).2
theorem Ed6 {x y : Int} (hy : 0 < y) : Int.tmod x y + y * Int.tdiv x y = x ∧ -y < Int.tmod x y ∧ Int.tmod x y < y := by
 refine ⟨Int.tmod_add_mul_tdiv x y, ?_, Int.tmod_lt_of_pos x hy⟩
 have := Int.lt_tmod_of_pos x hy
 omega
theorem Td6 {x y q r : Int} (hy : 0 < y) (h : r + y * q = x) (h1 : 0 ≤ r) (h2 : r < y) : x / y = q := ((Int.ediv_emod_unique hy).2 ⟨h, h1, h2⟩).1
theorem ze7 {x y : Int} (hx : Sm 300000000000000 x) (hy : 0 < y) : Sm 300000000000000 (Int.tdiv x y) := J6 hx hy
theorem Ed7 {x y : Int} (hx : Sm 300000000000000 x) (hy : 0 < y) : Ra6 x y = some (i (x / y), []) := by
 have hz : (y == 0) = false := by rw [beq_eq_false_iff_ne]; omega
 obtain ⟨h1, h2, h3⟩ := Ed6 (x := x) hy
 have hb := ze7 hx hy
 unfold Ra6
 rw [bf hz, bf hz, Ba7 (hb.mono (by omega))]
 by_cases h : Int.tmod x y < 0
 ·rw [btD h, Td6 hy (q := Int.tdiv x y - 1) (r := Int.tmod x y + y) (by rw [Int.mul_sub]; omega) (by omega) (by omega), Ga0 (by have := hb.1; omega) (by have := hb.2; omega)]
 ·rw [bfD h, Td6 hy h1 (by omega) h3]
theorem Wb8 {x y : Int} (hx : Sm 300000000000000 x) (hy : 0 < y) : ea9 x y = x / y := by unfold ea9; rw [Ed7 hx hy]; rfl
theorem Wb9 {x y : Int} (hx : Sm 300000000000000 x) (hy : 0 < y) : fa0 x y = true := by unfold fa0; rw [Ed7 hx hy]; rfl
theorem me2 (x : Int) {y : Int} (hy : 0 < y) (hy2 : y ≤ 4000000000000000000) : Ab9 x y = some (i (x % y), []) := by
 have hz : (y == 0) = false := by rw [beq_eq_false_iff_ne]; omega
 obtain ⟨h1, h2, h3⟩ := Ed6 (x := x) hy
 unfold Ab9
 rw [bfD (by omega), bf hz, bf hz, Ga0 (by omega) (by omega), Int.tmod_eq_emod_of_nonneg (by omega)]
 congr 3
 rw [Int.add_emod_right]
 conv => rhs; rw [← h1]
 rw [Int.add_mul_emod_self_left]
theorem Td7 (x : Int) {y : Int} (hy : 0 < y) (hy2 : y ≤ 4000000000000000000) : wa7 x y = x % y := by unfold wa7; rw [me2 x hy hy2]; rfl
theorem Sc4 (x : Int) {y : Int} (hy : 0 < y) (hy2 : y ≤ 4000000000000000000) : qa1 x y = true := by unfold qa1; rw [me2 x hy hy2]; rfl
noncomputable def pc0 (s : V3 × V3) (x : Pt) : V3 × V3 :=
 (⟨if x.px / x.pw < s.1.x then x.px / x.pw else s.1.x, if x.py / x.pw < s.1.y then x.py / x.pw else s.1.y, if x.pz / x.pw < s.1.z then x.pz / x.pw else s.1.z⟩,
  ⟨if W (0 - -x.px / x.pw) > s.2.x then W (0 - -x.px / x.pw) else s.2.x, if W (0 - -x.py / x.pw) > s.2.y then W (0 - -x.py / x.pw) else s.2.y, if W (0 - -x.pz / x.pw) > s.2.z then W (0 - -x.pz / x.pw) else s.2.z⟩)
noncomputable def bnd (c : List Pln) : V3 × V3 × Bool :=
 if ful c then (((pts c).foldl pc0 (⟨24, 24, 24⟩, ⟨-24, -24, -24⟩)).1, ((pts c).foldl pc0 (⟨24, 24, 24⟩, ⟨-24, -24, -24⟩)).2, true) else (⟨0, 0, 0⟩, ⟨0, 0, 0⟩, false)
theorem me3 {x : Int} (h : Sm 300000000000000 x) : W (0 - x) = -x := by obtain ⟨h1, h2⟩ := h; rw [Ga0 (by omega) (by omega)]; omega
theorem Sm.neg {n x : Int} (h : Sm n x) : Sm n (-x) := ⟨by have := h.2; omega, by have := h.1; omega⟩
noncomputable def Xe4 (r : V3 × V3 × Bool) : b7 := .tup [.agg (tV.row r.1), .agg (tV.row r.2.1), b r.2.2]
theorem Od8 (X : List Pt) (hX : X.length ≤ 8000000) (hok : ∀ x ∈ X, Okx x) (s : V3 × V3) : ∃ m, lp (ka7 ⟨X, (X.length : Int)⟩) ⟨0, s.1.x, s.1.y, s.1.z, s.2.x, s.2.y, s.2.z⟩ = (1, ⟨m, (X.foldl pc0 s).1.x, (X.foldl pc0 s).1.y, (X.foldl pc0 s).1.z, (X.foldl pc0 s).2.x, (X.foldl pc0 s).2.y, (X.foldl pc0 s).2.z⟩) := by
 have h := Vb5 (step := ka7 ⟨X, (X.length : Int)⟩) (mk := fun j (s : V3 × V3) => (⟨(j : Int), s.1.x, s.1.y, s.1.z, s.2.x, s.2.y, s.2.z⟩ : aa4)) (f := pc0) (fin := 1) tX X (fun _ _ => True) (by omega)
  (fun j s hj _ => ⟨by
   have hx := hok _ (Lc5 tX hj)
   simp only [ka7, ra2, Int.toNat_natCast, me3 hx.c1, me3 hx.c2, me3 hx.c3, Wb8 hx.c1 hx.w1, Wb8 hx.c2 hx.w1, Wb8 hx.c3 hx.w1, Wb9 hx.c1 hx.w1, Wb9 hx.c2 hx.w1, Wb9 hx.c3 hx.w1,
    Wb8 hx.c1.neg hx.w1, Wb8 hx.c2.neg hx.w1, Wb8 hx.c3.neg hx.w1, Wb9 hx.c1.neg hx.w1, Wb9 hx.c2.neg hx.w1, Wb9 hx.c3.neg hx.w1, o9 hj (by omega)]
   rw [btD (n9 hj), bt (f0 hj)]
   rfl, trivial⟩)
  (fun s _ => by simp only [ka7, ra2]; rw [bfD (P1 (Nat.lt_irrefl _))]) 0 (Nat.zero_le _) s trivial
 have h := h.1
 rw [List.drop_zero] at h
 exact ⟨_, h⟩
theorem Ed8 {c : List Pln} (hc : c.length ≤ 1000000000) : Ra7 c = some (Xe4 (bnd c), []) := by
 have ht : S7 ⟨24, 24, 24⟩ (-1) = ⟨-24, -24, -24⟩ := by
  unfold S7
  rw [show W (24 * -1) = -24 from by rw [Zd7]; rfl]
 obtain ⟨m, hm⟩ := Od8 (pts c) (oc9 c) ze6 (⟨24, 24, 24⟩, ⟨-24, -24, -24⟩)
 unfold Ra7 bnd
 simp only [m0, J9, m8, Rb6 hc, Rb7 hc, ob0 hc, ob1 hc, ht, hm]
 cases ful c <;> rfl
theorem Td8 (r : V3 × V3 × Bool) : (ub5 r1V r1V r1B).rd (Xe4 r, []) = some r := rfl
theorem ze8 {c : List Pln} (hc : c.length ≤ 1000000000) : ib1 c = bnd c := by unfold ib1; rw [Ed8 hc]; exact wa9 _ (Td8 _)
theorem ze9 {c : List Pln} (hc : c.length ≤ 1000000000) : ib2 c = true := by unfold ib2; rw [Ed8 hc]; exact Ia2 _ (Td8 _)
theorem me4 (x : Pt) : (x.px == x.px && (x.py == x.py && (x.pz == x.pz && (x.pw == x.pw && true)))) = true := (pd9 x x).2 rfl
theorem me5 (x : Pln) : (x.n.x == x.n.x && (x.n.y == x.n.y && (x.n.z == x.n.z && (x.b == x.b && true)))) = true := by simp
theorem bc6 (l : List Pt) (hl : l.length ≤ 1000000000) : ra5 l l = some (b true, []) := by
 have h := lb4 (step := da3 ⟨l, l⟩) (mk := fun j => (⟨(j : Int)⟩ : E1)) (c := fun _ => false) (u := 1) (fin := 2) tX l hl
  (fun j hj => by
   simp only [da3, aa6, Int.toNat_natCast, o9 hj (by omega), me4]
   rw [btD (n9 hj), bt (f0 hj), bt (f0 hj)]
   rfl)
  (by simp only [da3, aa6]; rw [bfD (P1 (Nat.lt_irrefl _))]) 0 (Nat.zero_le _)
 rw [List.drop_zero, show (l.any fun _ => false) = false by simp] at h
 unfold ra5
 simp only [m0, m8]
 rw [show (⟨0⟩ : E1) = ⟨((0 : Nat) : Int)⟩ from rfl, h, bf (by simp)]
 rfl
theorem pc1 (l : List Pt) (hl : l.length ≤ 1000000000) : ra6 l l = true := by unfold ra6; rw [bc6 l hl]; rfl
theorem pc2 (l : List Pt) (hl : l.length ≤ 1000000000) : ra7 l l = true := by unfold ra7; rw [bc6 l hl]; rfl
theorem Td9 (l : List Pln) (hl : l.length ≤ 1000000000) : ob9 l l = some (b true, []) := by
 have h := lb4 (step := Ia7 ⟨l, l⟩) (mk := fun j => (⟨(j : Int)⟩ : fa1)) (c := fun _ => false) (u := 1) (fin := 2) tP l hl
  (fun j hj => by
   simp only [Ia7, Ca7, Int.toNat_natCast, o9 hj (by omega), me5]
   rw [btD (n9 hj), bt (f0 hj), bt (f0 hj)]
   rfl)
  (by simp only [Ia7, Ca7]; rw [bfD (P1 (Nat.lt_irrefl _))]) 0 (Nat.zero_le _)
 rw [List.drop_zero, show (l.any fun _ => false) = false by simp] at h
 unfold ob9
 simp only [m0, m8]
 rw [show (⟨0⟩ : fa1) = ⟨((0 : Nat) : Int)⟩ from rfl, h, bf (by simp)]
 rfl
theorem me6 (l : List Pln) (hl : l.length ≤ 1000000000) : pb0 l l = true := by unfold pb0; rw [Td9 l hl]; rfl
theorem me7 (l : List Pln) (hl : l.length ≤ 1000000000) : pb1 l l = true := by unfold pb1; rw [Td9 l hl]; rfl
end Go.Ev.Ce
namespace Go.Ev.Ce
open Go Go.Ev Go.Ev.L Go.Proofs
def Nx {σ : Type} (x : Stp σ) (E : Nat → Prop) (N : σ → Prop) : Prop := (∃ t, x = .exit t ∧ E t) ∨ ∃ s, x = .next s ∧ N s
theorem Nx.sl {σ : Type} {c : Bool} {t e : Stp σ} {E : Nat → Prop} {N : σ → Prop} (h1 : c = true → Nx t E N) (h2 : c = false → Nx e E N) : Nx (sl c t e) E N := by cases c; exact h2 rfl; exact h1 rfl
theorem Nx.ex {σ : Type} {t : Nat} {E : Nat → Prop} {N : σ → Prop} (h : E t) : Nx (.exit t) E N := .inl ⟨t, rfl, h⟩
theorem Nx.nx {σ : Type} {s : σ} {E : Nat → Prop} {N : σ → Prop} (h : N s) : Nx (.next s) E N := .inr ⟨s, rfl, h⟩
theorem ua0 {σ τ : Type} {step : σ → Stp σ} {mk : Nat → τ → σ} (n : Nat) (I : Nat → τ → Prop) (E : Nat → σ → Prop) (hn : n ≤ 1000000000)
  (h : ∀ j a, j < n → I j a → Nx (step (mk j a)) (fun t => E t (mk j a)) (fun s => ∃ a', s = mk (j + 1) a' ∧ I (j + 1) a'))
  (hf : ∀ j a, n ≤ j → I j a → ∃ t, step (mk j a) = .exit t ∧ E t (mk j a)) (j0 : Nat) (a : τ) (hi : I j0 a) : ∃ t s, lp step (mk j0 a) = (t, s) ∧ E t s := by
 have key := Pb0 (step := step) (I := fun m s => ∃ j a, m = n - j ∧ s = mk j a ∧ I j a) (Q := E) (fun m s ⟨j, a, hm, hs, ha⟩ => by
  subst hs
  by_cases hlt : j < n
  ·rcases h j a hlt ha with h1 | ⟨s', h1, a', h2, h3⟩
   ·exact .inl h1
   ·subst h2
    exact .inr ⟨_, n - (j + 1), by omega, h1, j + 1, a', rfl, rfl, h3⟩
  ·exact .inl (hf j a (by omega) ha)) (n - j0) (mk j0 a) (by omega) ⟨j0, a, rfl, rfl, hi⟩
 exact ⟨_, _, rfl, key⟩
def Rd {ρ : Type} (R : RR ρ) (o : Option (b7 × List b8)) (P : ρ → Prop) : Prop := ∃ x r, o = some x ∧ R.rd x = some r ∧ P r
theorem Rd.p {ρ : Type} {R : RR ρ} {o : Option (b7 × List b8)} {P : ρ → Prop} (h : Rd R o P) : P (K5 R o) := by
 obtain ⟨x, r, h1, h2, h3⟩ := h
 rw [h1, wa9 R h2]
 exact h3
theorem Rd.g {ρ : Type} {R : RR ρ} {o : Option (b7 × List b8)} {P : ρ → Prop} (h : Rd R o P) : okO R o = true := by
 obtain ⟨x, r, h1, h2, h3⟩ := h
 rw [h1]
 exact Ia2 R h2
theorem Rd.sl {ρ : Type} {R : RR ρ} {c : Bool} {t e : Option (b7 × List b8)} {P : ρ → Prop} (h1 : c = true → Rd R t P) (h2 : c = false → Rd R e P) : Rd R (sl c t e) P := by cases c; exact h2 rfl; exact h1 rfl
theorem ua1 (n : Int) (l : List Int) (j : Int) (h1 : 0 ≤ j) (h2 : j ≤ 1000000) (hn : 0 < n) (hn2 : n ≤ 1000000) :
  ∃ v j', l4 ⟨n, l, j⟩ = ⟨1, v, j'⟩ ∧ 0 ≤ v ∧ v < n ∧ j ≤ j' ∧ j' ≤ j + 1 := by
 unfold l4 ka8
 simp only
 by_cases h : j ≥ (l.length : Int)
 ·rw [btD h]
  exact ⟨0, j, rfl, by omega, hn, by omega, by omega⟩
 ·rw [bfD h]
  have hW : W (W (j + 1) - 1) = j := by rw [Lc4, Ga0 (by omega) (by omega)]; omega
  have hW2 : W (j + 1) = j + 1 := Ga0 (by omega) (by omega)
  have hin : inB j l.length = true := by rw [Gc3]; exact decide_eq_true (by omega)
  rw [hW, hW2, hin, Sc4 _ hn (by omega), Td7 _ hn (by omega)]
  exact ⟨_, _, rfl, Int.emod_nonneg _ (by omega), Int.emod_lt_of_pos _ hn, by omega, by omega⟩
theorem Sc5 (m : Int) (l : List Int) (j : Int) (h1 : 0 ≤ j) (h2 : j ≤ 900000) (hm : 0 ≤ m) (hm2 : m ≤ 100000) :
  ∃ a b c j', Ea6 ⟨m, l, j⟩ = ⟨1, a, b, c, l, j'⟩ ∧ Sm m a ∧ Sm m b ∧ Sm m c ∧ j ≤ j' ∧ j' ≤ j + 3 := by
 unfold Ea6 kb1
 simp only [m0, m8]
 have hW : W (W (2 * m) + 1) = 2 * m + 1 := by rw [wb3, Ga0 (by omega) (by omega)]
 rw [hW]
 obtain ⟨v1, j1, e1, a1, b1, c1, d1⟩ := ua1 (2 * m + 1) l j h1 (by omega) (by omega) (by omega)
 rw [e1]
 obtain ⟨v2, j2, e2, a2, b2, c2, d2⟩ := ua1 (2 * m + 1) l j1 (by omega) (by omega) (by omega) (by omega)
 simp only
 rw [e2]
 obtain ⟨v3, j3, e3, a3, b3, c3, d3⟩ := ua1 (2 * m + 1) l j2 (by omega) (by omega) (by omega) (by omega)
 simp only
 rw [e3]
 refine ⟨v1 - m, v2 - m, v3 - m, j3, ?_, ⟨by omega, by omega⟩, ⟨by omega, by omega⟩, ⟨by omega, by omega⟩, by omega, by omega⟩
 simp only
 rw [Ga0 (n := v1 - m) (by omega) (by omega), Ga0 (n := v2 - m) (by omega) (by omega), Ga0 (n := v3 - m) (by omega) (by omega)]
 rfl
def inV (v : V3) : Bool := smb 24 v.x && (smb 24 v.y && smb 24 v.z)
theorem Gc8 (v : V3) : inV v = true ↔ Sm 24 v.x ∧ Sm 24 v.y ∧ Sm 24 v.z := by unfold inV; rw [Bool.and_eq_true, Bool.and_eq_true, nc9, nc9, nc9]
theorem me8 (v : V3) : Rb8 v = some (b (inV v), []) := by
 unfold Rb8 inV smb
 cases h1 : decide (v.x < -24) <;> cases h2 : decide (v.x > 24) <;> cases h3 : decide (v.y < -24) <;> cases h4 : decide (v.y > 24) <;> cases h5 : decide (v.z < -24) <;> cases h6 : decide (v.z > 24) <;> rfl
theorem me9 (v : V3) : Ra9 v = inV v := by unfold Ra9; rw [me8]; rfl
theorem Ud0 (v : V3) : Sa0 v = true := by unfold Sa0; rw [me8]; rfl
def sub (a b : V3) : V3 := ⟨a.x - b.x, a.y - b.y, a.z - b.z⟩
theorem Ud1 {a b : V3} (ha : inV a = true) (hb : inV b = true) : Na7 a b = sub a b ∧ Sm 48 (sub a b).x ∧ Sm 48 (sub a b).y ∧ Sm 48 (sub a b).z := by
 rw [Gc8] at ha hb
 obtain ⟨⟨a1, a2⟩, ⟨a3, a4⟩, a5, a6⟩ := ha
 obtain ⟨⟨b1, b2⟩, ⟨b3, b4⟩, b5, b6⟩ := hb
 unfold Na7 sub
 rw [Ga0 (by omega) (by omega), Ga0 (by omega) (by omega), Ga0 (by omega) (by omega)]
 exact ⟨rfl, ⟨by show _ ≤ a.x - b.x; omega, by show a.x - b.x ≤ _; omega⟩, ⟨by show _ ≤ a.y - b.y; omega, by show a.y - b.y ≤ _; omega⟩, ⟨by show _ ≤ a.z - b.z; omega, by show a.z - b.z ≤ _; omega⟩⟩
theorem bd6 {a b c : V3} (ha : inV a = true) (hb : inV b = true) (hc : inV c = true) :
  T9 (Na7 b a) (Na7 c a) = p7 (sub b a) (sub c a) ∧ Sm 4608 (p7 (sub b a) (sub c a)).x ∧ Sm 4608 (p7 (sub b a) (sub c a)).y ∧ Sm 4608 (p7 (sub b a) (sub c a)).z := by
 obtain ⟨e1, ⟨u1, u2⟩, ⟨u3, u4⟩, u5, u6⟩ := Ud1 hb ha
 obtain ⟨e2, ⟨v1, v2⟩, ⟨v3, v4⟩, v5, v6⟩ := Ud1 hc ha
 rw [e1, e2, nc8]
 generalize sub b a = p at *
 generalize sub c a = q at *
 have h1 := mb u3 u4 v5 v6; have h2 := mb u5 u6 v3 v4; have h3 := mb u5 u6 v1 v2; have h4 := mb u1 u2 v5 v6; have h5 := mb u1 u2 v3 v4; have h6 := mb u3 u4 v1 v2
 have k : Sm 4608 (p7 p q).x ∧ Sm 4608 (p7 p q).y ∧ Sm 4608 (p7 p q).z := by unfold Sm p7; simp only; omega
 obtain ⟨k1, k2, k3⟩ := k
 rw [Ba7 (k1.mono (by omega)), Ba7 (k2.mono (by omega)), Ba7 (k3.mono (by omega))]
 exact ⟨rfl, k1, k2, k3⟩
def Ae0 (a b c : V3) : Pln × Bool :=
 if inV a && (inV b && inV c) then
  if g3 (p7 (sub b a) (sub c a)) = 0 then (⟨⟨0, 0, 0⟩, 0⟩, false)
  else (⟨⟨Int.tdiv (p7 (sub b a) (sub c a)).x (g3 (p7 (sub b a) (sub c a))), Int.tdiv (p7 (sub b a) (sub c a)).y (g3 (p7 (sub b a) (sub c a))), Int.tdiv (p7 (sub b a) (sub c a)).z (g3 (p7 (sub b a) (sub c a)))⟩,
   dot ⟨Int.tdiv (p7 (sub b a) (sub c a)).x (g3 (p7 (sub b a) (sub c a))), Int.tdiv (p7 (sub b a) (sub c a)).y (g3 (p7 (sub b a) (sub c a))), Int.tdiv (p7 (sub b a) (sub c a)).z (g3 (p7 (sub b a) (sub c a)))⟩ a⟩, true)
 else (⟨⟨0, 0, 0⟩, 0⟩, false)
theorem ce1 (v : V3) : 0 ≤ g3 v := by unfold g3; omega
theorem Sc6 (a c d : V3) : Ia3 a c d = some (.tup [.agg (tP.row (Ae0 a c d).1), b (Ae0 a c d).2], []) := by
 unfold Ia3 Ae0
 simp only [me9, Ud0]
 cases ha : inV a with
 | false => rfl
 | true =>
  cases hc : inV c with
  | false => rfl
  | true =>
   cases hd : inV d with
   | false => rfl
   | true =>
    obtain ⟨e, k1, k2, k3⟩ := bd6 ha hc hd
    rw [e]
    generalize p7 (sub c a) (sub d a) = n at *
    have m1 := k1.mono (m := 1000000000000000000) (by omega)
    have m2 := k2.mono (m := 1000000000000000000) (by omega)
    have m3 := k3.mono (m := 1000000000000000000) (by omega)
    rw [ke8 m1 m2 m3, Pc5 m1 m2 m3]
    by_cases h0 : g3 n = 0
    ·rw [show (g3 n == 0) = true from by rw [h0]; rfl]
     simp only [Bool.and_self, if_true, h0]
     rfl
    ·have hp := ce1 n
     have q1 := J6 (g := g3 n) k1 (by omega)
     have q2 := J6 (g := g3 n) k2 (by omega)
     have q3 := J6 (g := g3 n) k3 (by omega)
     rw [show (g3 n == 0) = false from by rw [beq_eq_false_iff_ne]; exact h0, Me2 m1 m2 m3 h0]
     simp only [Bool.and_self, if_true, h0, if_false]
     rw [Ba7 (q1.mono (by omega)), Ba7 (q2.mono (by omega)), Ba7 (q3.mono (by omega))]
     have hdot : Na0 ⟨Int.tdiv n.x (g3 n), Int.tdiv n.y (g3 n), Int.tdiv n.z (g3 n)⟩ a = dot ⟨Int.tdiv n.x (g3 n), Int.tdiv n.y (g3 n), Int.tdiv n.z (g3 n)⟩ a := by
      unfold Na0
      simp only [wb3, dc8]
      obtain ⟨⟨a1, a2⟩, ⟨a3, a4⟩, a5, a6⟩ := (Gc8 a).1 ha
      have r1 := mb q1.1 q1.2 a1 a2; have r2 := mb q2.1 q2.2 a3 a4; have r3 := mb q3.1 q3.2 a5 a6
      rw [Ga0 (by omega) (by omega)]
      rfl
     rw [hdot]
     rfl
theorem ce2 (a b c : V3) : oa5 a b c = Ae0 a b c := by unfold oa5; rw [Sc6]; rfl
theorem Xb0 (a b c : V3) : oa6 a b c = true := by unfold oa6; rw [Sc6]; rfl
theorem Ae1 (l : List Int) : Rd (one r1P) (ob3 l) (fun _ => True) := by
 unfold ob3
 simp only [m0, m8]
 obtain ⟨v1, j1, e1, a1, b1, c1, d1⟩ := ua1 8 l 0 (by omega) (by omega) (by omega) (by omega)
 rw [e1]
 simp only
 obtain ⟨v2, j2, e2, a2, b2, c2, d2⟩ := ua1 17 l j1 (by omega) (by omega) (by omega) (by omega)
 rw [e2]
 simp only
 obtain ⟨x1, x2, x3, j3, e3, _, _, _, c3, d3⟩ := Sc5 8 l j2 (by omega) (by omega) (by omega) (by omega)
 rw [e3]
 simp only
 obtain ⟨y1, y2, y3, j4, e4, _, _, _, c4, d4⟩ := Sc5 8 l j3 (by omega) (by omega) (by omega) (by omega)
 rw [e4]
 simp only
 obtain ⟨z1, z2, z3, j5, e5, _, _, _, c5, d5⟩ := Sc5 8 l j4 (by omega) (by omega) (by omega) (by omega)
 rw [e5]
 simp only [ce2, Xb0, Sc4 _ (show (0 : Int) < 3 by omega) (by omega), m8]
 simp only [Nat.beq_refl, Bool.and_true, q7]
 refine Rd.sl (fun _ => Rd.sl (fun _ => ⟨_, _, rfl, rfl, trivial⟩) fun _ => ?_) (fun _ => ?_)
 ·exact Rd.sl (fun _ => ⟨_, _, rfl, rfl, trivial⟩) fun _ => Rd.sl (fun _ => ⟨_, _, rfl, rfl, trivial⟩) fun _ => ⟨_, _, rfl, rfl, trivial⟩
 ·exact Rd.sl (fun _ => ⟨_, _, rfl, rfl, trivial⟩) fun _ => Rd.sl (fun _ => ⟨_, _, rfl, rfl, trivial⟩) fun _ => ⟨_, _, rfl, rfl, trivial⟩
theorem Ae2 (l : List Int) : Hb0 l = true := (Ae1 l).g
theorem Ae3 (p : Pln) (v : V3) : Rd (one r1I) (ob4 p v) (fun _ => True) := by
 unfold ob4
 simp only [Cd3, Ud0, q7]
 exact Rd.sl (fun _ => ⟨_, _, rfl, rfl, trivial⟩) fun _ => Rd.sl (fun _ => ⟨_, _, rfl, rfl, trivial⟩) fun _ => Rd.sl (fun _ => ⟨_, _, rfl, rfl, trivial⟩) fun _ => Rd.sl (fun _ => ⟨_, _, rfl, rfl, trivial⟩) fun _ => ⟨_, _, rfl, rfl, trivial⟩
theorem ne0 (p : Pln) (v : V3) : Hb3 p v = true := (Ae3 p v).g
theorem Xe5 (P : ta8) (hl : P.i5.length ≤ 1000000000) : ∃ t s, lp (xa0 P) ⟨0⟩ = (t, s) ∧ (t = 1 ∨ t = 2 ∨ t = 3) := by
 obtain ⟨l, x1, x2, x3, x4, x5, x6, x7, x8⟩ := P
 refine ua0 (step := xa0 ⟨l, x1, x2, x3, x4, x5, x6, x7, x8⟩) (mk := fun j (_ : Unit) => (⟨(j : Int)⟩ : ma3)) l.length (fun _ _ => True) (fun t _ => t = 1 ∨ t = 2 ∨ t = 3) hl (fun j a hj _ => ?_) (fun j a hj _ => ?_) 0 () trivial
 ·simp only [xa0, Ba9, ne0, Int.toNat_natCast, o9 hj (show l.length ≤ 4611686018427387904 from Nat.le_trans hl (by omega))]
  rw [btD (n9 hj), bt (f0 hj), q7]
  exact Nx.sl (fun _ => Nx.sl (fun _ => .ex (by simp)) fun _ => .nx ⟨(), rfl, trivial⟩) fun _ => .ex (by simp)
 ·simp only [xa0, Ba9]
  rw [bfD (by omega)]
  exact ⟨_, rfl, by simp⟩
theorem Xe6 (l : List V3) (hl : l.length ≤ 1000000000) (a c : Nat) (ha : a < l.length) (hc : c < a) : ∃ t s, lp (xa1 ⟨(a : Int), (c : Int)⟩) ⟨l, 0⟩ = (t, s) ∧ ((t = 1 ∨ t = 2) ∧ s.i5 = l) := by
 refine ua0 (step := xa1 ⟨(a : Int), (c : Int)⟩) (mk := fun j (_ : Unit) => (⟨l, (j : Int)⟩ : ma4)) c (fun _ _ => True) (fun t s => (t = 1 ∨ t = 2) ∧ s.i5 = l) (by omega) (fun j x hj _ => ?_) (fun j x hj _ => ?_) 0 () trivial
 ·simp only [xa1, Ca0, Xb0, Int.toNat_natCast, m0, m8, o9 hj (show c ≤ 4611686018427387904 by omega)]
  rw [btD (n9 hj), bt (f0 ha), bt (f0 (show c < l.length by omega)), bt (f0 (show j < l.length by omega)), q7]
  generalize hP : ta8.mk _ _ _ _ _ _ _ _ _ = P3
  obtain ⟨t, s, h1, h2⟩ := Xe5 P3 (by subst hP; exact hl)
  rw [h1]
  rcases h2 with rfl | rfl | rfl
  ·exact .ex (by simp)
  ·exact .nx ⟨(), rfl, trivial⟩
  ·exact .nx ⟨(), rfl, trivial⟩
 ·simp only [xa1, Ca0]
  rw [bfD (by omega)]
  exact ⟨_, rfl, by simp⟩
theorem Xe7 (l : List V3) (hl : l.length ≤ 1000000000) (a : Nat) (ha : a < l.length) : ∃ t s, lp (xa2 ⟨(a : Int)⟩) ⟨l, 0⟩ = (t, s) ∧ ((t = 1 ∨ t = 2) ∧ s.i5 = l) := by
 refine ua0 (step := xa2 ⟨(a : Int)⟩) (mk := fun j (_ : Unit) => (⟨l, (j : Int)⟩ : ma5)) a (fun _ _ => True) (fun t s => (t = 1 ∨ t = 2) ∧ s.i5 = l) (by omega) (fun j x hj _ => ?_) (fun j x hj _ => ?_) 0 () trivial
 ·simp only [xa2, Ca1, m0, m8, o9 hj (show a ≤ 4611686018427387904 by omega)]
  obtain ⟨t, s, h1, h2, h3⟩ := Xe6 l hl a j ha hj
  rw [btD (n9 hj), h1]
  rcases h2 with rfl | rfl
  ·exact .ex (by simp)
  ·exact .nx ⟨(), by rw [h3], trivial⟩
 ·simp only [xa2, Ca1]
  rw [bfD (by omega)]
  exact ⟨_, rfl, by simp⟩
theorem ub1 (l : List V3) (hl : l.length ≤ 1000000000) : Rd (one r1B) (ob5 l) (fun _ => True) := by
 have key : ∃ t s, lp (xa3 ⟨⟩) ⟨l, 0⟩ = (t, s) ∧ (t = 1 ∨ t = 2) := by
  refine ua0 (step := xa3 ⟨⟩) (mk := fun j (_ : Unit) => (⟨l, (j : Int)⟩ : ma6)) l.length (fun _ _ => True) (fun t s => (t = 1 ∨ t = 2)) hl (fun j x hj _ => ?_) (fun j x hj _ => ?_) 0 () trivial
  ·simp only [xa3, Ca2, m0, m8, o9 hj (show l.length ≤ 4611686018427387904 by omega)]
   obtain ⟨t, s, h1, h2, h3⟩ := Xe7 l hl j hj
   rw [btD (n9 hj), h1]
   rcases h2 with rfl | rfl
   ·exact .ex (by simp)
   ·exact .nx ⟨(), by rw [h3], trivial⟩
  ·simp only [xa3, Ca2]
   rw [bfD (by omega)]
   exact ⟨_, rfl, by simp⟩
 obtain ⟨t, s, h1, h2⟩ := key
 unfold ob5
 simp only [m0, m8]
 rw [h1]
 rcases h2 with rfl | rfl <;> exact ⟨_, _, rfl, rfl, trivial⟩
theorem ne2 (l : List V3) (hl : l.length ≤ 1000000000) : Wa5 l = true := (ub1 l hl).g
theorem Od9 (l : List V3) (hl : l.length ≤ 1000000000) : Rd (one r1I) (bb0 l) (fun _ => True) := by
 have h := lb4 (step := Ca3 ⟨l⟩) (mk := fun j => (⟨(j : Int)⟩ : Y8)) (c := fun v => !inV v) (u := 1) (fin := 2) tV l hl
  (fun j hj => by
   simp only [Ca3, va9, Int.toNat_natCast, me9, Ud0, o9 hj (show l.length ≤ 4611686018427387904 by omega)]
   rw [btD (n9 hj), bt (f0 hj), q7])
  (by simp only [Ca3, va9]; rw [bfD (P1 (Nat.lt_irrefl _))]) 0 (Nat.zero_le _)
 unfold bb0
 simp only [m0, m8, J9, ne2 l hl]
 rw [show (⟨0⟩ : Y8) = ⟨((0 : Nat) : Int)⟩ from rfl, h]
 refine Rd.sl (fun _ => ⟨_, _, rfl, rfl, trivial⟩) fun _ => ?_
 rw [List.drop_zero]
 cases l.any fun v => !inV v with
 | true => exact ⟨_, _, rfl, rfl, trivial⟩
 | false =>
  show Rd (one r1I) (sl (ob6 l) (some (i 11, [])) (some (i 0, []))) (fun _ => True)
  exact Rd.sl (fun _ => ⟨_, _, rfl, rfl, trivial⟩) fun _ => ⟨_, _, rfl, rfl, trivial⟩
theorem ce3 (l : List V3) (hl : l.length ≤ 1000000000) : Sb3 l = true := (Od9 l hl).g
theorem ne3 (p : Pln) (l : List V3) (hl : l.length ≤ 1000000000) : Rd (one r1B) (bb1 p l) (fun _ => True) := by
 have h := lb4 (step := Ca4 ⟨l, p.n.x, p.n.y, p.n.z, p.b⟩) (mk := fun j => (⟨(j : Int)⟩ : Y9)) (c := fun v => decide (Hb2 p v > 0)) (u := 1) (fin := 2) tV l hl
  (fun j hj => by
   simp only [Ca4, wa0, Int.toNat_natCast, ne0, o9 hj (show l.length ≤ 4611686018427387904 by omega)]
   rw [btD (n9 hj), bt (f0 hj), q7])
  (by simp only [Ca4, wa0]; rw [bfD (P1 (Nat.lt_irrefl _))]) 0 (Nat.zero_le _)
 unfold bb1
 simp only [m0, m8]
 rw [show (⟨0⟩ : Y9) = ⟨((0 : Nat) : Int)⟩ from rfl, h]
 split <;> exact ⟨_, _, rfl, rfl, trivial⟩
theorem Ae4 (p : Pln) (l : List V3) (hl : l.length ≤ 1000000000) : ma7 p l = true := (ne3 p l hl).g
theorem Ne3 (p q : Pln) : Rd (one r1I) (oa7 p q) (fun _ => True) := by
 have key : ∃ t s, lp (G2 ⟨p.n.x, p.n.y, p.n.z, p.b, q.n.x, q.n.y, q.n.z, q.b⟩) ⟨0⟩ = (t, s) ∧ (t = 1 ∨ t = 2 ∨ t = 3) := by
  refine ua0 (step := G2 ⟨p.n.x, p.n.y, p.n.z, p.b, q.n.x, q.n.y, q.n.z, q.b⟩) (mk := fun j (_ : Unit) => (⟨(j : Int)⟩ : N8)) 4 (fun _ _ => True) (fun t s => (t = 1 ∨ t = 2 ∨ t = 3)) (by omega) (fun j x hj _ => ?_) (fun j x hj _ => ?_) 0 () trivial
  ·have hn := o9 hj (show 4 ≤ 4611686018427387904 by omega)
   simp only [G2, T0, Int.toNat_natCast, hn]
   have hlt : (j : Int) < 4 := by omega
   have hin := f0 hj
   have g : ∀ x1 x2 x3 x4 : Int, ((Nat.ble ((0 + (j * 1)) + 1) 4) && (J8 [(CK.int .i64)] (e7 [(i x1), (i x2), (i x3), (i x4)] (0 + (j * 1))))) = true := by
    intro x1 x2 x3 x4
    match j, hj with
    | 0, _ => rfl
    | 1, _ => rfl
    | 2, _ => rfl
    | 3, _ => rfl
   rw [btD hlt]
   simp only [hin, g, q7]
   exact Nx.sl (fun _ => .ex (by simp)) fun _ => Nx.sl (fun _ => .ex (by simp)) fun _ => .nx ⟨(), rfl, trivial⟩
  ·simp only [G2, T0]
   rw [bfD (by omega)]
   exact ⟨_, rfl, by simp⟩
 obtain ⟨t, s, h1, h2⟩ := key
 unfold oa7
 simp only
 rw [h1]
 rcases h2 with rfl | rfl | rfl <;> exact ⟨_, _, rfl, rfl, trivial⟩
theorem ne4 (p q : Pln) : Xa8 p q = true := (Ne3 p q).g
theorem Sc7 (l : List Pln) (n : Nat) (h : n ≤ l.length) : o7 (fun k => (fun k => tP.row (gL tP l k)) (0 + k)) (List.range (n - 0)) = bL tP (l.take n) := by
 rw [← lb3, n8, n8, List.length_take, Nat.min_eq_left h, Nat.sub_zero]
 apply List.map_congr_left
 intro k hk
 rw [List.mem_range] at hk
 show tP.row (gL tP l (0 + k)) = tP.row (gL tP (l.take n) k)
 congr 1
 simp [gL, List.getD_eq_getElem?_getD, List.getElem?_take, hk]
theorem Sc8 (l : List Pln) (n : Nat) : o7 (fun k => (fun k => tP.row (gL tP l k)) (n + k)) (List.range (l.length - n)) = bL tP (l.drop n) := by
 rw [← lb3, n8, n8, List.length_drop]
 apply List.map_congr_left
 intro k hk
 show tP.row (gL tP l (n + k)) = tP.row (gL tP (l.drop n) k)
 rw [oc1]
theorem Sb7 (l : List Pln) (x1 x2 x3 x4 : Int) : app (bL tP l) [[i x1, i x2, i x3, i x4]] = bL tP (l ++ [⟨⟨x1, x2, x3⟩, x4⟩]) := La7 tP l [⟨⟨x1, x2, x3⟩, x4⟩]
def Lb0 (x : List Pln) (y : Pln) (n : Nat) : List Pln := x.take n ++ (y :: x.drop n)
theorem yb9 {l : List Pln} {n : Nat} {r : List (List b7)} {P : List Pln → Prop} (hn : n = l.length) (hr : r = bL tP l) (h : P l) : Rd (one (r1L tP)) (some (.sl 0 0 n 0, [⟨50, 4, r, true, false, 0⟩])) P := by
 subst hn hr
 exact ⟨_, l, rfl, fc3 l, h⟩
theorem ne5 (x : List Pln) (y : Pln) (hx : x.length ≤ 1000000) : Rd (one (r1L tP)) (Bb9 x y) (fun r => r ≠ [] ∧ r.length ≤ x.length + 1 ∧ ∀ p ∈ r, p = y ∨ p ∈ x) := by
 have h := gb6 (step := Ea7 ⟨x, y.n.x, y.n.y, y.n.z, y.b⟩) (mk := fun j => (⟨(j : Int)⟩ : ma8)) (c := fun p => !decide (Y7 p y < 0)) (u := 1) (fin := 2) tP x (by omega)
  (fun j hj => by
   simp only [Ea7, Ia6, Int.toNat_natCast, ne4, o9 hj (show x.length ≤ 4611686018427387904 by omega)]
   rw [btD (n9 hj), bt (f0 hj), q7]
   cases decide (Y7 (gL tP x j) y < 0) <;> rfl)
  (by simp only [Ea7, Ia6]; rw [bfD (P1 (Nat.lt_irrefl _))]) 0 (Nat.zero_le _)
 rw [List.drop_zero] at h
 have key : ∃ t n, lp (Ea7 ⟨x, y.n.x, y.n.y, y.n.z, y.b⟩) ⟨0⟩ = (t, ⟨((n : Nat) : Int)⟩) ∧ (t = 1 ∨ t = 2) ∧ n ≤ x.length := by
  rw [show (⟨0⟩ : ma8) = ⟨((0 : Nat) : Int)⟩ from rfl, h]
  split
  ·exact ⟨1, _, rfl, .inl rfl, by rw [Nat.zero_add]; exact List.findIdx_le_length⟩
  ·exact ⟨2, _, rfl, .inr rfl, Nat.le_refl _⟩
 obtain ⟨t, n, h1, h2, h3⟩ := key
 have hlo : inB (n : Int) (x.length + 1) = true := f0 (by omega)
 have hd : (bL tP (x.take n)).length = n := by rw [← l9, O5, List.length_take]; omega
 have hmem : ∀ p ∈ Lb0 x y n, p = y ∨ p ∈ x := fun p hp => by
  unfold Lb0 at hp
  rcases List.mem_append.1 hp with hp | hp
  ·exact .inr (List.mem_of_mem_take hp)
  ·rcases List.mem_cons.1 hp with hp | hp
   ·exact .inl hp
   ·exact .inr (List.mem_of_mem_drop hp)
 have hne : Lb0 x y n ≠ [] := by unfold Lb0; simp
 have hlen : (Lb0 x y n).length = x.length + 1 := by unfold Lb0; simp only [List.length_append, List.length_cons, List.length_take, List.length_drop]; omega
 have lt : len (bL tP (x.take n)) = n := by rw [l9]; exact hd
 have ld : len (bL tP (x.drop n)) = x.length - n := by rw [O5, List.length_drop]
 have b1 : (Nat.beq 1 1 && Nat.ble ((1 + (x.length - n)) * 32) room) = true := by rw [da8 (by omega)]; rfl
 have b2 : (Nat.beq 0 0 && Nat.ble ((0 + n) * 32) room) = true := by rw [da8 (by omega)]; rfl
 have e0 : app [] (bL tP (x.take n)) = bL tP (x.take n) := rfl
 have b3 : (Nat.beq (0 + n) n && Nat.ble (((0 + n) + 1) * 32) room) = true := by rw [da8 (by omega), Nat.zero_add, Nat.beq_refl]; rfl
 have l3 : len (bL tP (x.take n ++ [y])) = n + 1 := by rw [O5, List.length_append, List.length_take]; simp only [List.length_singleton]; omega
 have b4 : (Nat.beq ((0 + n) + 1) (n + 1) && Nat.ble ((((0 + n) + 1) + (x.length - n)) * 32) room) = true := by rw [da8 (by omega), Nat.zero_add, Nat.beq_refl]; rfl
 have z0 : ∀ {k : Nat}, Nat.beq k 0 = true → k = 0 := fun {k} h => Nat.eq_of_beq_eq_true h
 have fin : ∀ m r, m = x.length + 1 → r = bL tP (Lb0 x y n) → Rd (one (r1L tP)) (some (.sl 0 0 m 0, [⟨50, 4, r, true, false, 0⟩])) (fun r => r ≠ [] ∧ r.length ≤ x.length + 1 ∧ ∀ p ∈ r, p = y ∨ p ∈ x) :=
  fun m r hm hr => yb9 (by rw [hlen]; exact hm) hr ⟨hne, by omega, hmem⟩
 have tail : Rd (one (r1L tP)) (sl (Nat.beq n 0) (sl (Nat.beq (x.length - n) 0) (some ((.sl 0 0 1 0), [⟨50, 4, [[(i y.n.x), (i y.n.y), (i y.n.z), (i y.b)]], true, false, 0⟩]))
   (some ((.sl 0 0 (1 + (x.length - n)) 0), [⟨50, 4, (app [[(i y.n.x), (i y.n.y), (i y.n.z), (i y.b)]] (bL tP (x.drop n))), true, false, 0⟩])))
   (sl (Nat.beq (x.length - n) 0) (some ((.sl 0 0 ((0 + n) + 1) 0), [⟨50, 4, bL tP (x.take n ++ [y]), true, false, 0⟩]))
    (some ((.sl 0 0 (((0 + n) + 1) + (x.length - n)) 0), [⟨50, 4, (app (bL tP (x.take n ++ [y])) (bL tP (x.drop n))), true, false, 0⟩])))) (fun r => r ≠ [] ∧ r.length ≤ x.length + 1 ∧ ∀ p ∈ r, p = y ∨ p ∈ x) := by
  refine Rd.sl (fun q1 => Rd.sl (fun q2 => ?_) (fun q2 => ?_)) (fun q1 => Rd.sl (fun q2 => ?_) (fun q2 => ?_))
  ·have := z0 q1; have := z0 q2
   refine fin _ _ (by omega) ?_
   have : x = [] := List.eq_nil_of_length_eq_zero (by omega)
   subst this
   rw [show n = 0 by omega]; rfl
  ·have := z0 q1; subst this
   exact fin _ _ (by omega) rfl
  ·have := z0 q2
   refine fin _ _ (by omega) ?_
   unfold Lb0
   rw [show x.drop n = [] from List.drop_eq_nil_of_le (by omega)]
  ·refine fin _ _ (by omega) ?_
   rw [La7]
   unfold Lb0
   rw [List.append_assoc]; rfl
 have same : ∀ p : Pln, (p.n.x == y.n.x && (p.n.y == y.n.y && (p.n.z == y.n.z && (p.b == y.b && true)))) = true → n < x.length → Rd (one (r1L tP)) (some (eL tP x, [])) (fun r => r ≠ [] ∧ r.length ≤ x.length + 1 ∧ ∀ p ∈ r, p = y ∨ p ∈ x) := fun p _ hn =>
  ⟨_, x, rfl, id3 tP x, List.ne_nil_of_length_pos (by omega), Nat.le_succ _, fun p hp => Or.inr hp⟩
 unfold Bb9
 simp only [m0, m8]
 rw [h1]
 simp only [Int.toNat_natCast, Sc7 x n h3, Sc8, lt, ld, b1, b2, e0, b3, Sb7, l3, b4, hlo, q7]
 have main : Rd (one (r1L tP)) (sl (decide ((n : Int) < (x.length : Int))) (sl (inB (n : Int) x.length) (sl (((gL tP x n).n.x == y.n.x) && (((gL tP x n).n.y == y.n.y) && (((gL tP x n).n.z == y.n.z) && (((gL tP x n).b == y.b) && true)))) (some (eL tP x, []))
   (sl (Nat.beq n 0) (sl (Nat.beq (x.length - n) 0) (some ((.sl 0 0 1 0), [⟨50, 4, [[(i y.n.x), (i y.n.y), (i y.n.z), (i y.b)]], true, false, 0⟩]))
   (some ((.sl 0 0 (1 + (x.length - n)) 0), [⟨50, 4, (app [[(i y.n.x), (i y.n.y), (i y.n.z), (i y.b)]] (bL tP (x.drop n))), true, false, 0⟩])))
   (sl (Nat.beq (x.length - n) 0) (some ((.sl 0 0 ((0 + n) + 1) 0), [⟨50, 4, bL tP (x.take n ++ [y]), true, false, 0⟩]))
    (some ((.sl 0 0 (((0 + n) + 1) + (x.length - n)) 0), [⟨50, 4, (app (bL tP (x.take n ++ [y])) (bL tP (x.drop n))), true, false, 0⟩]))))) none)
   (sl (Nat.beq n 0) (sl (Nat.beq (x.length - n) 0) (some ((.sl 0 0 1 0), [⟨50, 4, [[(i y.n.x), (i y.n.y), (i y.n.z), (i y.b)]], true, false, 0⟩]))
   (some ((.sl 0 0 (1 + (x.length - n)) 0), [⟨50, 4, (app [[(i y.n.x), (i y.n.y), (i y.n.z), (i y.b)]] (bL tP (x.drop n))), true, false, 0⟩])))
   (sl (Nat.beq (x.length - n) 0) (some ((.sl 0 0 ((0 + n) + 1) 0), [⟨50, 4, bL tP (x.take n ++ [y]), true, false, 0⟩]))
    (some ((.sl 0 0 (((0 + n) + 1) + (x.length - n)) 0), [⟨50, 4, (app (bL tP (x.take n ++ [y])) (bL tP (x.drop n))), true, false, 0⟩]))))) (fun r => r ≠ [] ∧ r.length ≤ x.length + 1 ∧ ∀ p ∈ r, p = y ∨ p ∈ x) := by
  by_cases hn : n < x.length
  ·rw [btD (n9 hn), bt (f0 hn)]
   exact Rd.sl (fun q => same _ q hn) fun _ => tail
  ·rw [bfD (P1 hn)]
   exact tail
 rcases h2 with rfl | rfl
 ·exact main
 ·exact main
end Go.Ev.Ce
namespace Go.Ev.Ce
open Go Go.Ev Go.Ev.L Go.Proofs
theorem He4 (x : List Pln) (y : Pln) (hx : x.length ≤ 1000000) : xa4 x y = true := (ne5 x y hx).g
theorem He5 (x : List Pln) (y : Pln) (hx : x.length ≤ 1000000) : K8 x y ≠ [] ∧ (K8 x y).length ≤ x.length + 1 ∧ ∀ p ∈ K8 x y, p = y ∨ p ∈ x := (ne5 x y hx).p
structure Fc (ph : Nat) (out : List Pln) (m : Nat) : Prop where
 h : (ph = 0 ∧ out = []) ∨ ph = 1
 l : out.length ≤ m
theorem Fc.more {ph m m' : Nat} {out : List Pln} (h : Fc ph out m) (hm : m ≤ m') : Fc ph out m' := ⟨h.h, Nat.le_trans h.l hm⟩
theorem Ae5 (l : List V3) (hl : l.length ≤ 48) (a c : Nat) (ha : a < l.length) (hc : c < a) (h0 : Nat) (out : List Pln) (m : Nat) (hm : m ≤ 900000) (hf : Fc h0 out m) :
  ∃ t s, lp (Ca5 ⟨l, (a : Int), (c : Int)⟩) ⟨h0, 0, out⟩ = (t, s) ∧ (t = s.ph + 1 ∧ Fc s.ph s.ja0 (m + 100)) := by
 refine ua0 (step := Ca5 ⟨l, (a : Int), (c : Int)⟩) (mk := fun j (x : Nat × List Pln) => (⟨x.1, (j : Int), x.2⟩ : G3)) c (fun j x => Fc x.1 x.2 (m + 2 * j) ∧ j ≤ 48) (fun t s => t = s.ph + 1 ∧ Fc s.ph s.ja0 (m + 100)) (by omega) (fun j x hj hx => ?_) (fun j x hj hx => ?_) 0 (h0, out) ⟨hf, by omega⟩
 ·obtain ⟨h, o⟩ := x
  obtain ⟨⟨hx, hx2⟩, _⟩ := hx
  have hn := o9 hj (show c ≤ 4611686018427387904 by omega)
  have hh : ∀ p, ma7 p l = true := fun p => Ae4 p l (by omega)
  have hg1 : ∀ y, xa4 o y = true := fun y => He4 o y (by simp only at hx2; omega)
  have hp1 : ∀ y, K8 o y ≠ [] ∧ (K8 o y).length ≤ o.length + 1 := fun y => by have := He5 o y (by simp only at hx2; omega); exact ⟨this.1, this.2.1⟩
  have hg2 : ∀ y z, xa4 (K8 o y) z = true := fun y z => He4 _ z (by have := (hp1 y).2; simp only at hx2; omega)
  have hp2 : ∀ y z, (K8 (K8 o y) z).length ≤ o.length + 2 := fun y z => by
   have := (He5 (K8 o y) z (by have := (hp1 y).2; simp only at hx2; omega)).2.1
   have := (hp1 y).2
   omega
  simp only at hx hx2
  have stay : Fc h o (m + 2 * (j + 1)) ∧ j + 1 ≤ 48 := ⟨⟨hx, by omega⟩, by omega⟩
  have put1 : ∀ y, Fc 1 (K8 o y) (m + 2 * (j + 1)) ∧ j + 1 ≤ 48 := fun y => ⟨⟨.inr rfl, by have := (hp1 y).2; omega⟩, by omega⟩
  have put2 : ∀ y z, Fc 1 (K8 (K8 o y) z) (m + 2 * (j + 1)) ∧ j + 1 ≤ 48 := fun y z => ⟨⟨.inr rfl, by have := hp2 y z; omega⟩, by omega⟩
  rcases hx with ⟨rfl, rfl⟩ | rfl
  ·show Nx (ca2 Stp.next Stp.exit Stp.fail _ _) _ _
   simp only [ca2, Xb0, Int.toNat_natCast, m0, J9, hh, hg1, hg2, hn]
   rw [btD (n9 hj), bt (f0 ha), bt (f0 (show c < l.length by omega)), bt (f0 (show j < l.length by omega))]
   simp only [q7]
   refine Nx.sl (fun _ => .nx ⟨(0, []), rfl, stay⟩) fun _ => Nx.sl (fun _ => Nx.sl (fun _ => .nx ⟨(1, _), rfl, put2 _ _⟩) fun _ => .nx ⟨(1, _), rfl, put1 _⟩) fun _ => Nx.sl (fun _ => .nx ⟨(1, _), rfl, put1 _⟩) fun _ => .nx ⟨(0, []), rfl, stay⟩
  ·show Nx (ca3 Stp.next Stp.exit Stp.fail _ _) _ _
   simp only [ca3, Xb0, Int.toNat_natCast, m0, J9, hh, hg1, hg2, hn]
   rw [btD (n9 hj), bt (f0 ha), bt (f0 (show c < l.length by omega)), bt (f0 (show j < l.length by omega))]
   simp only [q7]
   refine Nx.sl (fun _ => .nx ⟨(1, o), rfl, stay⟩) fun _ => Nx.sl (fun _ => Nx.sl (fun _ => .nx ⟨(1, _), rfl, put2 _ _⟩) fun _ => .nx ⟨(1, _), rfl, put1 _⟩) fun _ => Nx.sl (fun _ => .nx ⟨(1, _), rfl, put1 _⟩) fun _ => .nx ⟨(1, o), rfl, stay⟩
 ·obtain ⟨h, o⟩ := x
  obtain ⟨⟨hx, hx2⟩, h48⟩ := hx
  simp only at hx hx2
  rcases hx with ⟨rfl, rfl⟩ | rfl
  ·refine ⟨1, ?_, rfl, ⟨.inl ⟨rfl, rfl⟩, by show 0 ≤ _; omega⟩⟩
   show ca2 Stp.next Stp.exit Stp.fail _ _ = _
   simp only [ca2]
   rw [bfD (by omega)]
  ·refine ⟨2, ?_, rfl, ⟨.inr rfl, by show o.length ≤ _; omega⟩⟩
   show ca3 Stp.next Stp.exit Stp.fail _ _ = _
   simp only [ca3]
   rw [bfD (by omega)]
theorem Ae6 (l : List V3) (hl : l.length ≤ 48) (a : Nat) (ha : a < l.length) (h0 : Nat) (out : List Pln) (m : Nat) (hm : m ≤ 800000) (hf : Fc h0 out m) :
  ∃ t s, lp (Ca6 ⟨(a : Int)⟩) ⟨h0, l, 0, out⟩ = (t, s) ∧ (t = s.ph + 1 ∧ Fc s.ph s.ja0 (m + 5000) ∧ s.i5 = l) := by
 refine ua0 (step := Ca6 ⟨(a : Int)⟩) (mk := fun j (x : Nat × List Pln) => (⟨x.1, l, (j : Int), x.2⟩ : G4)) a (fun j x => Fc x.1 x.2 (m + 100 * j) ∧ j ≤ 48) (fun t s => t = s.ph + 1 ∧ Fc s.ph s.ja0 (m + 5000) ∧ s.i5 = l) (by omega) (fun j x hj hx => ?_) (fun j x hj hx => ?_) 0 (h0, out) ⟨hf, by omega⟩
 ·obtain ⟨h, o⟩ := x
  obtain ⟨hx, _⟩ := hx
  have hn := o9 hj (show a ≤ 4611686018427387904 by omega)
  simp only at hx
  obtain ⟨t, s, e1, e2, e3⟩ := Ae5 l hl a j ha hj h o (m + 100 * j) (by omega) hx
  obtain ⟨s1, s2, s3⟩ := s
  simp only at e2 e3
  have go : Fc s1 s3 (m + 100 * (j + 1)) ∧ j + 1 ≤ 48 := ⟨e3.more (by omega), by omega⟩
  rcases hx.h with ⟨rfl, rfl⟩ | rfl
  ·show Nx (ca4 Stp.next Stp.exit Stp.fail _ _) _ _
   simp only [ca4, m0, m8, hn]
   rw [btD (n9 hj), e1, e2]
   rcases e3.h with ⟨rfl, rfl⟩ | rfl
   ·exact .nx ⟨(0, []), rfl, go⟩
   ·exact .nx ⟨(1, s3), rfl, go⟩
  ·show Nx (ca5 Stp.next Stp.exit Stp.fail _ _) _ _
   simp only [ca5, m0, m8, hn]
   rw [btD (n9 hj), e1, e2]
   rcases e3.h with ⟨rfl, rfl⟩ | rfl
   ·exact .nx ⟨(0, []), rfl, go⟩
   ·exact .nx ⟨(1, s3), rfl, go⟩
 ·obtain ⟨h, o⟩ := x
  obtain ⟨hx, h48⟩ := hx
  simp only at hx
  have h2 := hx.more (show m + 100 * j ≤ m + 5000 by omega)
  rcases hx.h with ⟨rfl, rfl⟩ | rfl
  ·refine ⟨1, ?_, rfl, h2, rfl⟩
   show ca4 Stp.next Stp.exit Stp.fail _ _ = _
   simp only [ca4]
   rw [bfD (by omega)]
  ·refine ⟨2, ?_, rfl, h2, rfl⟩
   show ca5 Stp.next Stp.exit Stp.fail _ _ = _
   simp only [ca5]
   rw [bfD (by omega)]
theorem Ae7 (l : List V3) (hl : l.length ≤ 48) :
  ∃ t s, lp (Sa4 ⟨⟩) ⟨0, l, 0, []⟩ = (t, s) ∧ (t = s.ph + 1 ∧ Fc s.ph s.ja0 250000) := by
 refine ua0 (step := Sa4 ⟨⟩) (mk := fun j (x : Nat × List Pln) => (⟨x.1, l, (j : Int), x.2⟩ : K4)) l.length (fun j x => Fc x.1 x.2 (5000 * j) ∧ j ≤ 48) (fun t s => t = s.ph + 1 ∧ Fc s.ph s.ja0 250000) (by omega) (fun j x hj hx => ?_) (fun j x hj hx => ?_) 0 (0, []) ⟨⟨.inl ⟨rfl, rfl⟩, Nat.le_refl _⟩, by omega⟩
 ·obtain ⟨h, o⟩ := x
  obtain ⟨hx, _⟩ := hx
  have hn := o9 hj (show l.length ≤ 4611686018427387904 by omega)
  simp only at hx
  obtain ⟨t, s, e1, e2, e3, e4⟩ := Ae6 l hl j hj h o (5000 * j) (by omega) hx
  obtain ⟨s1, s2, s3, s4⟩ := s
  simp only at e2 e3 e4
  subst e4
  have go : Fc s1 s4 (5000 * (j + 1)) ∧ j + 1 ≤ 48 := ⟨e3.more (by omega), by omega⟩
  rcases hx.h with ⟨rfl, rfl⟩ | rfl
  ·show Nx (ca6 Stp.next Stp.exit Stp.fail ⟨⟩ _) _ _
   simp only [ca6, m0, m8, hn]
   rw [btD (n9 hj), e1, e2]
   rcases e3.h with ⟨rfl, rfl⟩ | rfl
   ·exact .nx ⟨(0, []), rfl, go⟩
   ·exact .nx ⟨(1, s4), rfl, go⟩
  ·show Nx (ca7 Stp.next Stp.exit Stp.fail ⟨⟩ _) _ _
   simp only [ca7, m0, m8, hn]
   rw [btD (n9 hj), e1, e2]
   rcases e3.h with ⟨rfl, rfl⟩ | rfl
   ·exact .nx ⟨(0, []), rfl, go⟩
   ·exact .nx ⟨(1, s4), rfl, go⟩
 ·obtain ⟨h, o⟩ := x
  obtain ⟨hx, h48⟩ := hx
  simp only at hx
  have h2 := hx.more (show 5000 * j ≤ 250000 by omega)
  rcases hx.h with ⟨rfl, rfl⟩ | rfl
  ·refine ⟨1, ?_, rfl, h2⟩
   show ca6 Stp.next Stp.exit Stp.fail ⟨⟩ _ = _
   simp only [ca6]
   rw [bfD (by omega)]
  ·refine ⟨2, ?_, rfl, h2⟩
   show ca7 Stp.next Stp.exit Stp.fail ⟨⟩ _ = _
   simp only [ca7]
   rw [bfD (by omega)]
theorem Ne4 (l : List Pln) (n : Int) : (two (r1L tP) r1I).rd (.tup [eL tP l, i n], []) = some (l, n) := by
 have h : (r1L tP).rd [] (eL tP l) = some l := by
  show Bool.rec (motive := fun _ => Option (List Pln)) none (some (rt tP l)) (Bool.and (Nat.beq tP.es tP.es) (okE tP l)) = _
  rw [m0, J9, Nat.beq_refl]
  rfl
 simp only [two, h]
 rfl
theorem Ed9 (l : List V3) (hl : l.length ≤ 48) : Rd (two (r1L tP) r1I) (bb4 l) (fun r => r.1.length ≤ 250000) := by
 obtain ⟨t, s, e1, e2, e3⟩ := Ae7 l hl
 unfold bb4
 simp only [m0, m8, J9, ce3 l (show l.length ≤ 1000000000 by omega), q7]
 refine Rd.sl (fun _ => ⟨_, ([], Sb2 l), rfl, rfl, Nat.zero_le _⟩) fun _ => ?_
 rw [e1, e2]
 obtain ⟨s1, s2, s3, s4⟩ := s
 simp only at e3 ⊢
 rcases e3.h with ⟨rfl, rfl⟩ | rfl
 ·exact ⟨_, ([], 0), rfl, rfl, Nat.zero_le _⟩
 ·exact ⟨_, (s4, 0), rfl, Ne4 s4 0, e3.l⟩
theorem Ae8 (l : List V3) (hl : l.length ≤ 48) : Na8 l = true := (Ed9 l hl).g
theorem Ae9 (l : List V3) (hl : l.length ≤ 48) : (vb1 l).1.length ≤ 250000 := (Ed9 l hl).p
def phV (out : List V3) : Nat := match out with
 | [] => 0
 | _ :: _ => 1
theorem Ud2 (out : List V3) (x : V3) : phV (out ++ [x]) = 1 := by cases out <;> rfl
theorem Sc9 (l : List V3) (x1 x2 x3 : Int) : app (bL tV l) [[i x1, i x2, i x3]] = bL tV (l ++ [⟨x1, x2, x3⟩]) := La7 tV l [⟨x1, x2, x3⟩]
theorem Xe8 {l : List V3} {m : Nat} (h : m < l.length) : (((Nat.blt (0 + m) (len (bL tV l))) && (Nat.ble (0 + 3) (len (f7 (bL tV l) (0 + m))))) && (J8 [(CK.int .i64), (CK.int .i64), (CK.int .i64)] (e7 (f7 (bL tV l) (0 + m)) 0))) = true := by
 rw [Nat.zero_add, X5 tV h, O5, show Nat.blt m l.length = true from by rw [Nat.blt_eq]; exact h]
 rfl
theorem Xe9 {l : List V3} {m : Nat} (h : m < l.length) : (((Nat.blt (0 + m) (len (bL tV l))) && (Nat.ble (2 + 1) (len (f7 (bL tV l) (0 + m))))) && (J8 [(CK.int .i64)] (e7 (f7 (bL tV l) (0 + m)) 2))) = true := by
 rw [Nat.zero_add, X5 tV h, O5, show Nat.blt m l.length = true from by rw [Nat.blt_eq]; exact h]
 rfl
theorem He6 {n : Nat} {l : List V3} (hn : l.length = n) (h : n ≤ 1000000000) : (Nat.beq n (len (bL tV l)) && Nat.ble ((n + 1) * 24) room) = true := by
 subst hn
 rw [O5, Nat.beq_refl, Bool.true_and, Nat.ble_eq]
 unfold room
 omega
theorem Be0 (x : List Int) (N : Nat) (h4 : 4 ≤ N) (h8 : N ≤ 8) (j0 : Int) (hj0 : 0 ≤ j0 ∧ j0 ≤ 10) :
  ∃ idx out, lp (Ka7 ⟨(N : Int)⟩) ⟨0, 0, x, j0, 0, []⟩ = (2, ⟨1, (N : Int), x, idx, N, bL tV out⟩) ∧ out.length = N := by
 have key := ua0 (step := Ka7 ⟨(N : Int)⟩) (mk := fun j (a : Int × List V3) => (⟨phV a.2, (j : Int), x, a.1, a.2.length, bL tV a.2⟩ : A5)) N
  (fun j a => a.2.length = j ∧ 0 ≤ a.1 ∧ a.1 ≤ 10 + 4 * j ∧ j ≤ N) (fun t s => t = 2 ∧ ∃ idx out, s = ⟨1, (N : Int), x, idx, N, bL tV out⟩ ∧ out.length = N) (by omega) (fun j a hj ha => ?_) (fun j a hj ha => ?_) 0 (j0, []) ⟨rfl, hj0.1, by omega, by omega⟩
 ·obtain ⟨t, s, e1, rfl, idx, out, e2, e3⟩ := key
  exact ⟨idx, out, by rw [← e2]; exact e1, e3⟩
 ·obtain ⟨at0, out⟩ := a
  obtain ⟨ho, ha1, ha2, _⟩ := ha
  simp only at ho ha1 ha2
  have hn := o9 hj (show N ≤ 4611686018427387904 by omega)
  obtain ⟨v1, j1, d1, _, _, c1, b1⟩ := ua1 17 x at0 ha1 (by omega) (by omega) (by omega)
  obtain ⟨v2, j2, d2, _, _, c2, b2⟩ := ua1 17 x j1 (by omega) (by omega) (by omega) (by omega)
  obtain ⟨v3, j3, d3, _, _, c3, b3⟩ := ua1 17 x j2 (by omega) (by omega) (by omega) (by omega)
  obtain ⟨v4, j4, d4, _, _, c4, b4⟩ := ua1 6 x j3 (by omega) (by omega) (by omega) (by omega)
  have leaf : ∀ (E : Nat → Prop) (x1 x2 x3 : Int), Nx (.next (⟨1, ((j + 1 : Nat) : Int), x, j4, j + 1, bL tV (out ++ [⟨x1, x2, x3⟩])⟩ : A5)) E
    (fun s => ∃ a' : Int × List V3, s = ⟨phV a'.2, ((j + 1 : Nat) : Int), x, a'.1, a'.2.length, bL tV a'.2⟩ ∧ a'.2.length = j + 1 ∧ 0 ≤ a'.1 ∧ a'.1 ≤ 10 + 4 * ((j + 1 : Nat) : Int) ∧ j + 1 ≤ N) := fun E x1 x2 x3 => by
   have hl : (out ++ [(⟨x1, x2, x3⟩ : V3)]).length = j + 1 := by simp [ho]
   exact .nx ⟨(j4, out ++ [⟨x1, x2, x3⟩]), by simp only [Ud2, hl], hl, by show 0 ≤ j4; omega, by show j4 ≤ _; omega, by omega⟩
  cases out with
  | nil =>
   have hj0' : j = 0 := by simpa using ho.symm
   subst hj0'
   show Nx (ra4 Stp.next Stp.exit Stp.fail _ _) _ _
   simp only [ra4, m0, m8, d1, d2, d3, d4, hn]
   rw [btD (n9 hj)]
   have f1 : decide (((0 : Nat) : Int) > 1) = false := rfl
   have f2 : decide (((0 : Nat) : Int) > 0) = false := rfl
   have f3 : decide (((0 : Nat) : Int) > 2) = false := rfl
   have lf : ∀ (E : Nat → Prop) (x1 x2 x3 : Int), Nx (.next (⟨1, ((0 + 1 : Nat) : Int), x, j4, 1, [[i x1, i x2, i x3]]⟩ : A5)) E _ := leaf
   simp only [f1, f2, f3, Ya7, Nat.beq_refl, Bool.and_true, q7]
   refine Nx.sl (fun _ => ?_) (fun _ => ?_) <;> refine Nx.sl (fun _ => ?_) (fun _ => ?_)
   all_goals first
    | exact lf _ _ _ _
    | (refine Nx.sl (fun _ => ?_) (fun _ => ?_) <;> exact lf _ _ _ _)
  | cons o os =>
   have h1 : 1 ≤ j := by simp only [List.length_cons] at ho; omega
   generalize hO : o :: os = O at *
   have hph : phV O = 1 := by subst hO; rfl
   have w1 : W ((j : Int) - 1) = ((j - 1 : Nat) : Int) := by rw [Ga0 (by omega) (by omega)]; omega
   have i1 : inB ((j - 1 : Nat) : Int) j = true := f0 (by omega)
   have r1 := Xe8 (l := O) (m := j - 1) (by omega)
   have r1' := Xe9 (l := O) (m := j - 1) (by omega)
   have rr := He6 ho (by omega)
   have f2 : ∀ {inst : Decidable ((j : Int) > 0)}, @decide ((j : Int) > 0) inst = true := decide_eq_true (by omega)
   show Nx (sel (Nat.beq (phV O) 1) (K9 Stp.next Stp.exit Stp.fail _ _) _) _ _
   rw [hph]
   show Nx (K9 Stp.next Stp.exit Stp.fail _ _) _ _
   by_cases h2 : 2 ≤ j
   ·have w2 : W ((j : Int) - 2) = ((j - 2 : Nat) : Int) := by rw [Ga0 (by omega) (by omega)]; omega
    have i2 : inB ((j - 2 : Nat) : Int) j = true := f0 (by omega)
    have r2 := Xe8 (l := O) (m := j - 2) (by omega)
    simp only [K9, m0, m8, d1, d2, d3, d4, hn, ho, w1, w2, i1, i2, Int.toNat_natCast, r1, r1', r2, rr, Sc9]
    rw [btD (n9 hj)]
    simp only [Nat.beq_refl, Bool.and_true, q7]
    repeat' (first | exact leaf _ _ _ _ | refine Nx.sl (fun _ => ?_) (fun _ => ?_))
   ·have hj1 : j = 1 := by omega
    subst hj1
    simp only [K9, m0, m8, d1, d2, d3, d4, hn, ho, w1, i1, Int.toNat_natCast, r1, r1', rr, Sc9]
    have f1 : decide (((1 : Nat) : Int) > 1) = false := rfl
    rw [btD (n9 hj)]
    simp only [f1, Ya7, Nat.beq_refl, Bool.and_true, q7]
    repeat' (first | exact leaf _ _ _ _ | refine Nx.sl (fun _ => ?_) (fun _ => ?_))
 ·obtain ⟨at0, out⟩ := a
  obtain ⟨ho, ha1, ha2, hjN⟩ := ha
  simp only at ho ha1 ha2
  have hj' : j = N := by omega
  subst hj'
  cases out with
  | nil => simp only [List.length_nil] at ho; omega
  | cons o os =>
   refine ⟨2, ?_, rfl, at0, o :: os, by rw [ho]; rfl, ho⟩
   show K9 Stp.next Stp.exit Stp.fail _ _ = _
   simp only [K9]
   rw [bfD (by omega)]
theorem ne6 {l : List V3} {n : Nat} {r : List (List b7)} {P : List V3 → Prop} (hn : n = l.length) (hr : r = bL tV l) (h : P l) : Rd (one (r1L tV)) (some (.sl 0 0 n 0, [⟨36, 3, r, true, false, 0⟩])) P := by
 subst hn hr
 refine ⟨_, l, rfl, ?_, h⟩
 show Bool.rec (motive := fun _ => Option (List V3)) none (some (slR tV (bL tV l) 0 l.length)) (Bool.and true (okS tV (bL tV l) 0 l.length)) = _
 rw [dc6, dc7]
 rfl
theorem jd0 (x : List Int) : Rd (one (r1L tV)) (Sa5 x) (fun r => 4 ≤ r.length ∧ r.length ≤ 8) := by
 obtain ⟨v, j, e1, a1, b1, c1, d1⟩ := ua1 5 x 0 (by omega) (by omega) (by omega) (by omega)
 have hN : W (4 + v) = (((4 + v).toNat : Nat) : Int) := by rw [Ga0 (by omega) (by omega)]; omega
 obtain ⟨idx, out, e2, e3⟩ := Be0 x (4 + v).toNat (by omega) (by omega) j (by omega)
 unfold Sa5
 simp only [m0, m8, e1, hN, e2]
 have h4 : 4 ≤ (4 + v).toNat := by omega
 have h8 : (4 + v).toNat ≤ 8 := by omega
 generalize (4 + v).toNat = N at *
 have s1 : lsL tV N (fun k => f7 (bL tV out) (0 + k)) = out := by rw [← e3]; exact dc6 tV out
 have s2 : okL tV N (fun k => f7 (bL tV out) (0 + k)) = true := by rw [← e3]; exact dc7 tV out
 have gf : Wa5 out = true := ne2 out (by omega)
 rw [s1, s2, gf]
 simp only [Nat.beq_refl, Bool.and_true, q7, show Nat.beq 2 1 = false from rfl, Ya7]
 refine Rd.sl (fun _ => ?_) fun _ => ne6 e3.symm rfl ⟨by omega, by omega⟩
 have i0 : inB 0 N = true := f0 (j := 0) (by omega)
 have i1 : inB 1 N = true := f0 (j := 1) (by omega)
 have i2 : inB 2 N = true := f0 (j := 2) (by omega)
 have i3 : inB 3 N = true := f0 (j := 3) (by omega)
 have sp : ∀ (v : V3) (x1 x2 x3 : Int), M4 (tV.row v) 0 [i x1, i x2, i x3] = tV.row ⟨x1, x2, x3⟩ := fun _ _ _ _ => rfl
 have rl : ∀ v : V3, Nat.ble (0 + 3) (len (tV.row v)) = true := fun _ => rfl
 have ck : ∀ v : V3, J8 [(CK.int .i64), (CK.int .i64), (CK.int .i64)] (e7 (tV.row v) 0) = true := fun _ => rfl
 have gr : ∀ (l : List V3) (k : Nat), l.length = N → k < 4 → f7 (bL tV l) k = tV.row (gL tV l k) := fun l k hl hk => X5 tV (by omega)
 have bl : ∀ (l : List V3) (k : Nat), l.length = N → k < 4 → Nat.blt k (len (bL tV l)) = true := fun l k hl hk => by rw [O5, Nat.blt_eq]; omega
 have ls : ∀ (l : List V3) (k : Nat) (v : V3), l.length = N → (l.set k v).length = N := fun l k v hl => by rw [List.length_set]; exact hl
 rw [gr out 0 e3 (by omega), gr out 1 e3 (by omega)]
 simp only [sp, Ab0]
 rw [gr _ 2 (ls out 1 _ e3) (by omega)]
 simp only [sp, Ab0]
 rw [gr _ 3 (ls _ 2 _ (ls out 1 _ e3)) (by omega)]
 simp only [sp, Ab0, rl, ck, i0, i1, i2, i3, bl out 0 e3 (by omega), bl out 1 e3 (by omega), bl _ 2 (ls out 1 _ e3) (by omega), bl _ 3 (ls _ 2 _ (ls out 1 _ e3)) (by omega), Bool.and_true, q7]
 exact ne6 (by simp only [List.length_set]; omega) rfl (by simp only [List.length_set]; omega)
theorem ne7 (x : List Int) : Sa6 x = true := (jd0 x).g
theorem ne8 (x : List Int) : 4 ≤ (ta9 x).length ∧ (ta9 x).length ≤ 8 := (jd0 x).p
end Go.Ev.Ce
namespace Go.Ev.Ce
open Go Go.Ev Go.Ev.L Go.Proofs
theorem ne9 {l : List Pln} {P : List Pln → Prop} (h : P l) : Rd (one (r1L tP)) (some (eL tP l, [])) P := ⟨_, l, rfl, id3 tP l, h⟩
theorem Ud3 (x : List Int) : Rd (one (r1L tP)) (ob8 x) (fun r => r.length ≤ 250000) := by
 obtain ⟨v1, j1, e1, a1, b1, c1, d1⟩ := ua1 4 x 0 (by omega) (by omega) (by omega) (by omega)
 obtain ⟨w1, w2, w3, j2, e2, p1, p2, p3, c2, d2⟩ := Sc5 6 x j1 (by omega) (by omega) (by omega) (by omega)
 obtain ⟨v3, j3, e3, a3, b3, c3, d3⟩ := ua1 6 x j2 (by omega) (by omega) (by omega) (by omega)
 obtain ⟨v4, j4, e4, a4, b4, c4, d4⟩ := ua1 6 x j3 (by omega) (by omega) (by omega) (by omega)
 obtain ⟨v5, j5, e5, a5, b5, c5, d5⟩ := ua1 6 x j4 (by omega) (by omega) (by omega) (by omega)
 have hin : inB (if 7 < (x.length : Int) then 7 else (x.length : Int)) (x.length + 1) = true := by
  rw [Gc3]
  apply decide_eq_true
  split <;> omega
 have hok : ∀ n m, okL tI n (fun k => (fun k => tI.row (gL tI x k)) (m + k)) = true := fun n m => Eb6 tI (f := fun k => gL tI x (m + k)) fun _ _ => rfl
 unfold ob8
 simp only [m0, m8, J9, e1, e2, e3, e4, e5, Ge7, Ge8, hin, hok, lb3, Ae2, ne7, Nat.beq_refl, Bool.and_true, q7]
 generalize hL : lsL tI _ _ = L
 generalize hB : le0 _ _ = B
 have hB6 : B.length = 6 := by rw [← hB]; rfl
 have hl6 : len (bL tP B) = 6 := by rw [O5, hB6]
 have ea : app [] (bL tP B) = bL tP B := rfl
 have es : ∀ q : Pln, slR tP (bL tP (B ++ [q])) 0 (0 + 6 + 1) = B ++ [q] := fun q => by
  have := dc6 tP (B ++ [q])
  rw [List.length_append, hB6] at this
  exact this
 have eo : ∀ q : Pln, okS tP (bL tP (B ++ [q])) 0 (0 + 6 + 1) = true := fun q => by
  have := dc7 tP (B ++ [q])
  rw [List.length_append, hB6] at this
  exact this
 have gF : ∀ q : Pln, Ma0 (B ++ [q]) = true := fun q => Td4 (by rw [List.length_append, hB6]; exact (by decide : 6 + 1 ≤ 1000000000))
 have q1 : Nat.ble ((0 + 6) * 32) room = true := da8 (by omega)
 have q2 : Nat.ble (((0 + 6) + 1) * 32) room = true := da8 (by omega)
 have q3 : Nat.beq (0 + 6) 6 = true := rfl
 have hp := ne8 L
 have gf : Na8 (ta9 L) = true := Ae8 _ (by omega)
 have pf := Ae9 (ta9 L) (by omega)
 simp only [hl6, ea, Sb7, es, eo, gF, q1, q2, q3, Bool.and_self, gf, q7, show Nat.beq 6 0 = false from rfl, Ya7]
 have box : Rd (one (r1L tP)) (some (eL tP B, [])) (fun r => r.length ≤ 250000) := ne9 (by rw [hB6]; omega)
 have fcs : Rd (one (r1L tP)) (some (eL tP (vb1 (ta9 L)).1, [])) (fun r => r.length ≤ 250000) := ne9 pf
 exact Rd.sl (fun _ => Rd.sl (fun _ => yb9 (by rw [List.length_append, hB6]; rfl) rfl (by rw [List.length_append, hB6]; exact (by decide : 6 + 1 ≤ 250000))) fun _ => Rd.sl (fun _ => Rd.sl (fun _ => fcs) fun _ => box) fun _ => box) fun _ => Rd.sl (fun _ => Rd.sl (fun _ => fcs) fun _ => box) fun _ => box
theorem Ne5 (x : List Int) : fc9 x = true := (Ud3 x).g
theorem oe0 (x : List Int) : (ha9 x).length ≤ 250000 := (Ud3 x).p
theorem pc3 {l : List Pln} {k : Nat} (h : k < l.length) : ldR tP (bL tP l) (0 + k) = true := by rw [Nat.zero_add]; exact md9 tP h
theorem Xb1 {l : List Pln} {k : Nat} (h : k < l.length) : rdR tP (bL tP l) (0 + k) = gL tP l k := by rw [Nat.zero_add]; exact md8 tP h
theorem oe1 {α : Type} (t : Ty α) (k : Nat) (l : List α) : (one (r1L t)).rd (.sl 0 0 l.length 0, [⟨k, t.es, bL t l, true, false, 0⟩]) = some l := by
 show Bool.rec (motive := fun _ => Option (List α)) none (some (slR t (bL t l) 0 l.length)) (Bool.and (Nat.beq t.es t.es) (okS t (bL t l) 0 l.length)) = _
 rw [dc6, dc7, Nat.beq_refl]
 rfl
theorem Pd0 {l : List Pln} {n : Nat} {r : List (List b7)} {P : List Pln → Prop} (hn : n ≤ l.length) (hr : r = bL tP l) (h : P (l.take n)) : Rd (one (r1L tP)) (some (.sl 0 0 n 0, [⟨50, 4, r, true, false, 0⟩])) P := by
 subst hr
 have e1 : slR tP (bL tP l) 0 n = l.take n := Lc0 tP (by rw [List.length_take]; omega) fun k hk => by
  rw [Nat.zero_add, X5 tP (by omega)]
  congr 1
  simp [gL, List.getD_eq_getElem?_getD, List.getElem?_take, hk]
 have e2 : okS tP (bL tP l) 0 n = true := Eb6 tP (f := fun k => gL tP l k) fun k hk => by rw [Nat.zero_add, X5 tP (by omega)]
 refine ⟨_, l.take n, rfl, ?_, h⟩
 show Bool.rec (motive := fun _ => Option (List Pln)) none (some (slR tP (bL tP l) 0 n)) (Bool.and true (okS tP (bL tP l) 0 n)) = _
 rw [e1, e2]
 rfl
theorem oe2 (k : Nat) (l : List Pln) (hk : k < l.length) : ∃ s : ta0, lp (Sa8 ⟨(k : Int)⟩) ⟨l.length, bL tP l⟩ = (1, s) ∧ ∃ out : List Pln, s = ⟨out.length, bL tP out⟩ ∧ out.length ≤ l.length + 49 := by
 have key := Pb0 (step := Sa8 ⟨(k : Int)⟩) (I := fun m s => ∃ out : List Pln, s = ⟨out.length, bL tP out⟩ ∧ k < out.length ∧ (out.length ≤ 49 ∨ out = l) ∧ m = 49 - out.length) (Q := fun t s => t = 1 ∧ ∃ out : List Pln, s = ⟨out.length, bL tP out⟩ ∧ out.length ≤ l.length + 49) (fun m s ⟨out, hs, hk, ho, hm⟩ => by
  subst hs
  simp only [Sa8, Xa9, Int.toNat_natCast, pc3 hk, Xb1 hk, f0 hk, q7, Sb7]
  by_cases h : (out.length : Int) ≤ 48
  ·rw [btD h, O5, Nat.beq_refl, da8 (by omega)]
   refine .inr ⟨_, 49 - (out.length + 1), by omega, rfl, out ++ [gL tP out k], by rw [List.length_append]; rfl, by rw [List.length_append]; omega, .inl (by rw [List.length_append]; simp only [List.length_singleton]; omega), by rw [List.length_append]; rfl⟩
  ·rw [bfD h]
   exact .inl ⟨1, rfl, rfl, out, rfl, by rcases ho with ho | rfl <;> omega⟩) (49 - l.length) ⟨l.length, bL tP l⟩ (by omega) ⟨l, rfl, hk, .inr rfl, rfl⟩
 exact ⟨_, Prod.ext key.1 rfl, key.2⟩
theorem Ne6 (p : Pln) (v : V3) : Rd (one r1P) (Bb8 p v) (fun _ => True) := by
 have h1 := Int.emod_nonneg v.z (show (9 : Int) ≠ 0 by omega)
 have h2 := Int.emod_lt_of_pos v.z (show (0 : Int) < 9 by omega)
 unfold Bb8
 simp only [Sc4 _ (show (0 : Int) < 9 by omega) (by omega), Sc4 _ (show (0 : Int) < 5 by omega) (by omega), Td7 _ (show (0 : Int) < 9 by omega) (by omega), Td7 _ (show (0 : Int) < 5 by omega) (by omega)]
 have hin : inB (v.z % 9) 9 = true := by rw [Gc3]; exact decide_eq_true (by omega)
 have hck : ∀ (x1 x2 x3 x4 x5 x6 x7 x8 x9 : Int) (k : Nat), k < 9 → ((Nat.ble 1 (len (f7 [[(i x1)], [(i x2)], [(i x3)], [(i x4)], [(i x5)], [(i x6)], [(i x7)], [(i x8)], [(i x9)]] (0 + k)))) && (J8 [(CK.int .i64)] (f7 [[(i x1)], [(i x2)], [(i x3)], [(i x4)], [(i x5)], [(i x6)], [(i x7)], [(i x8)], [(i x9)]] (0 + k)))) = true := by
  intro x1 x2 x3 x4 x5 x6 x7 x8 x9 k hk
  match k, hk with
  | 0, _ => rfl
  | 1, _ => rfl
  | 2, _ => rfl
  | 3, _ => rfl
  | 4, _ => rfl
  | 5, _ => rfl
  | 6, _ => rfl
  | 7, _ => rfl
  | 8, _ => rfl
 rw [hin, hck _ _ _ _ _ _ _ _ _ _ (by omega)]
 simp only [q7]
 exact Rd.sl (fun _ => ⟨_, _, rfl, rfl, trivial⟩) fun _ => Rd.sl (fun _ => ⟨_, _, rfl, rfl, trivial⟩) fun _ => Rd.sl (fun _ => ⟨_, _, rfl, rfl, trivial⟩) fun _ => Rd.sl (fun _ => ⟨_, _, rfl, rfl, trivial⟩) fun _ => Rd.sl (fun _ => ⟨_, _, rfl, rfl, trivial⟩) fun _ => ⟨_, _, rfl, rfl, trivial⟩
theorem Ne7 (p : Pln) (v : V3) : wc0 p v = true := (Ne6 p v).g
theorem oe3 (x : List Pln) (y : V3) (hx : x.length ≤ 1000000) : Rd (one (r1L tP)) (Cb1 x y) (fun r => r.length ≤ x.length + 50) := by
 have ea : app [] (bL tP x) = bL tP x := rfl
 have one0 : Rd (one (r1L tP)) (some (.sl 0 0 1 0, [⟨50, 4, [[(i 0), (i 0), (i 0), (i 0)]], true, false, 0⟩])) (fun r => r.length ≤ x.length + 50) := yb9 (l := [⟨⟨0, 0, 0⟩, 0⟩]) rfl rfl (by simp only [List.length_singleton]; omega)
 unfold Cb1
 simp only [lb3, ea, O5, Nat.zero_add]
 by_cases h0 : x.length = 0
 ·rw [show Nat.beq x.length 0 = true from by rw [h0]; rfl]
  exact one0
 ·have z0 : Nat.beq x.length 0 = false := by
   cases h : Nat.beq x.length 0 with
   | false => rfl
   | true => exact absurd (Nat.eq_of_beq_eq_true h) h0
  have zi : ((x.length : Int) == 0) = false := by rw [beq_eq_false_iff_ne]; omega
  have hk1 := Int.emod_nonneg y.y (show (x.length : Int) ≠ 0 by omega)
  have hk2 := Int.emod_lt_of_pos y.y (show (0 : Int) < (x.length : Int) by omega)
  rw [z0, zi, Td7 y.y (show (0 : Int) < (x.length : Int) by omega) (by omega), Sc4 y.y (show (0 : Int) < (x.length : Int) by omega) (by omega), Sc4 y.x (show (0 : Int) < 6 by omega) (by omega), Sc4 y.z (show (0 : Int) < 9 by omega) (by omega)]
  obtain ⟨k, hk⟩ := Int.eq_ofNat_of_zero_le hk1
  rw [hk] at hk2 ⊢
  have hkx : k < x.length := by omega
  have i1 : inB (k : Int) x.length = true := f0 hkx
  have i2 : inB (k : Int) (x.length + 1) = true := f0 (by omega)
  have w1 : W ((k : Int) + 1) = ((k + 1 : Nat) : Int) := o9 hkx (by omega)
  have i3 : inB ((k + 1 : Nat) : Int) (x.length + 1) = true := f0 (by omega)
  have hrow : f7 (bL tP x) k = tP.row (gL tP x k) := X5 tP hkx
  have hb : Nat.blt k x.length = true := by rw [Nat.blt_eq]; exact hkx
  have hld : ldR tP (bL tP x) k = true := md9 tP hkx
  have hrd : rdR tP (bL tP x) k = gL tP x k := md8 tP hkx
  have sp : ∀ (v : Pln) (x1 x2 x3 x4 : Int), M4 (tP.row v) 0 [i x1, i x2, i x3, i x4] = tP.row ⟨⟨x1, x2, x3⟩, x4⟩ := fun _ _ _ _ _ => rfl
  have sp3 : ∀ (v : Pln) (x4 : Int), M4 (tP.row v) 3 [i x4] = tP.row ⟨v.n, x4⟩ := fun _ _ => rfl
  have rl : ∀ v : Pln, Nat.ble 4 (len (tP.row v)) = true := fun _ => rfl
  have rl3 : ∀ v : Pln, Nat.ble (3 + 1) (len (tP.row v)) = true := fun _ => rfl
  have ck3 : ∀ v : Pln, J8 [(CK.int .i64)] (e7 (tP.row v) 3) = true := fun _ => rfl
  have b0 : Nat.ble (x.length * 32) room = true := da8 (by omega)
  have b1 : Nat.ble ((x.length + 1) * 32) room = true := da8 (by omega)
  obtain ⟨s, l1, out, l2, l3⟩ := oe2 k x hkx
  have cutL : G6 (e7 (bL tP x) (k + 1)) (x.length - (k + 1)) = bL tP (x.drop (k + 1)) := by
   have hl : (bL tP x).length = x.length := by rw [← l9, O5]
   rw [E4, E5, List.take_of_length_le (by rw [List.length_drop, hl]; omega)]
   unfold bL
   rw [n8, n8, List.map_drop]
  have cutT : G6 (bL tP x) (k - 0) = bL tP (x.take k) := by
   unfold bL
   rw [E4, n8, n8, List.map_take, Nat.sub_zero]
  have cutD : ∀ n, e7 (bL tP x) n = bL tP (x.drop n) := fun n => by
   unfold bL
   rw [E5, n8, n8, List.map_drop]
  simp only [Int.toNat_natCast, i1, i2, w1, i3, hrow, hb, hld, hrd, sp, sp3, rl, rl3, ck3, b0, b1, Nat.beq_refl, Bool.and_self, Bool.and_true, q7, Ya7, Ne7, Ab0, Sb7, l1, l2, cutL]
  refine Rd.sl (fun _ => yb9 (by rw [List.length_set]) rfl (by rw [List.length_set]; omega)) fun _ => Rd.sl (fun _ => ?_) fun _ => Rd.sl (fun _ => yb9 (by rw [List.length_set]) rfl (by rw [List.length_set]; omega)) fun _ =>
   Rd.sl (fun _ => yb9 (by rw [List.length_append]; rfl) rfl (by rw [List.length_append]; simp only [List.length_singleton]; omega)) fun _ => Rd.sl (fun _ => yb9 (by rw [List.length_set]) rfl (by rw [List.length_set]; omega)) fun _ =>
   Rd.sl (fun _ => yb9 rfl rfl (by omega)) fun _ => yb9 rfl rfl (by omega)
  rw [cutT, cutD, O5, La7, La7, List.length_drop, bt (by rw [Nat.ble_eq]; omega)]
  refine Pd0 ?_ rfl ?_
  ·simp only [List.length_append, List.length_take, List.length_drop]; omega
  ·rw [List.length_take]; simp only [List.length_append, List.length_take, List.length_drop]; omega
theorem He7 (x : List Pln) (y : V3) (hx : x.length ≤ 1000000) : Cb2 x y = true := (oe3 x y hx).g
theorem oe4 (x : List Pln) (y : V3) (hx : x.length ≤ 1000000) : (Ea8 x y).length ≤ x.length + 50 := (oe3 x y hx).p
theorem oe5 (x : List Pln) : Rd (one (r1L tP)) (bb5 x) (fun r => r.length ≤ 8) := by
 have hin : inB (if 8 < (x.length : Int) then 8 else (x.length : Int)) (x.length + 1) = true := by
  rw [Gc3]
  apply decide_eq_true
  split <;> omega
 unfold bb5
 rw [hin, q7]
 refine ⟨_, lsL tP ((if 8 < (x.length : Int) then 8 else (x.length : Int)).toNat - 0) (fun k => (fun k => tP.row (gL tP x k)) (0 + k)), rfl, ?_, by show (lsL tP _ _).length ≤ 8; rw [md7]; split <;> omega⟩
 show Bool.rec (motive := fun _ => Option (List Pln)) none (some _) (Bool.and (Nat.beq 4 4) (okL tP _ _)) = _
 rw [Eb6 tP (f := fun k => gL tP x (0 + k)) fun _ _ => rfl]
 rfl
theorem Ye0 (x : List Pln) : Sb5 x = true := (oe5 x).g
theorem Ye1 (x : List Pln) : (vb2 x).length ≤ 8 := (oe5 x).p
noncomputable def Sb8 (x : List Int) (y : Q2) (z : List Pln) : List (List Pln) := [ha9 x, Ea8 (ha9 x) y.a, Ea8 (Ea8 (ha9 x) y.a) y.b, vb2 z]
theorem Fd0 (x : List Int) (y : Q2) (z : List Pln) : Rd (one (r1L (tLs tP))) (Ia8 x y z) (fun r => r = Sb8 x y z) := by
 have h1 := oe0 x
 have h2 := oe4 (ha9 x) y.a (by omega)
 unfold Ia8
 simp only [m0, J9, Ne5, He7 (ha9 x) y.a (by omega), He7 (Ea8 (ha9 x) y.a) y.b (by omega), Ye0, q7]
 exact ⟨_, Sb8 x y z, rfl, oe1 (tLs tP) 25 (Sb8 x y z), rfl⟩
theorem Be1 (x : List Int) (y : Q2) (z : List Pln) : yb8 x y z = true := (Fd0 x y z).g
theorem Be2 (x : List Int) (y : Q2) (z : List Pln) : yb7 x y z = Sb8 x y z := (Fd0 x y z).p
theorem ce4 (x : List Int) (y : Q2) (z : List Pln) : ∀ c ∈ Sb8 x y z, c.length ≤ 1000000 := by
 have h1 := oe0 x
 have h2 := oe4 (ha9 x) y.a (by omega)
 have h3 := oe4 (Ea8 (ha9 x) y.a) y.b (by omega)
 have h4 := Ye1 z
 intro c hc
 simp only [Sb8, List.mem_cons, List.not_mem_nil, or_false] at hc
 rcases hc with rfl | rfl | rfl | rfl <;> omega
end Go.Ev.Ce
