/- Own work: a part of the proof. -/
import Derived.Test.YtlccibobknidjaaGreatEvD5
import Derived.Test.YtlccibobknidjaaGreatEvDG
set_option linter.unusedVariables false
set_option linter.unusedSimpArgs false
set_option linter.unnecessarySimpa false
set_option linter.unusedSectionVars false
section
namespace Go.Ev.Ce
open Go Go.Ev Go.Ev.L Go.Proofs
set_option maxRecDepth 100000
noncomputable def Qa3 : List (Nat × Sum) := [(115, Na1), (194, Ob3)]
theorem Uc8 : l5 prog G Qa3 := ⟨bb4, hc8, trivial⟩
structure na9 where
 f0 : List V3
 is3 : Int
 is4 : Int
 is5 : Int
 bs7 : Bool
 f9 : Int
 c7 : Int
 g7 : Int
 d9 : Int
structure aa6 where
 is8 : Int
noncomputable def Fc8 (p : na9) (s : aa6) : St := ⟨((eL tV p.f0) :: (.unk :: (.unk :: ((i p.is3) :: ((i p.is4) :: ((i p.is5) :: ((.ptr 0 0 0 0) :: ((b p.bs7) :: ((i s.is8) :: (ra 48 [])))))))))), [⟨0, 4, [[(i p.f9), (i p.c7), (i p.g7), (i p.d9)]], true, false, 0⟩]⟩
noncomputable def W7 {α : Type} (k : aa6 → α) (e : Nat → α) (z : α) (p : na9) (s : aa6) : α := let t1 := (La6 (⟨(⟨p.f9, p.c7, p.g7⟩ : V3), p.d9⟩ : Pln) (gL tV p.f0 s.is8.toNat)); (sl (decide (s.is8 < (↑(List.length p.f0) : Int))) (sl p.bs7 (sl (inB s.is8 (List.length p.f0)) (sl (sb3 (⟨(⟨p.f9, p.c7, p.g7⟩ : V3), p.d9⟩ : Pln) (gL tV p.f0 s.is8.toNat)) (sl (t1 != 0) (e 1) (k ⟨(W (s.is8 + 1))⟩)) z) z) (e 2)) (e 3))
noncomputable def A4 (p : na9) (s : aa6) : Stp aa6 := W7 .next .exit .fail p s
noncomputable def sb4 : Lo na9 aa6 := ⟨En Qa3, 0, ed3, [1, 0, 1, 4, 4, 1, 0, 4, 1, 4, 4, 1, 0, 4, 1, 4, 4, 1, 0, 4, 1, 1, 4, 4], [0, 3, 4, 5, 6, 7, 8], .p, [⟨((.s (.c 3 (nL tV))) :: ((.s (.o .unk)) :: ((.s (.o .unk)) :: ((.s (.o (.int .i64))) :: ((.s (.o (.int .i64))) :: ((.s (.o (.int .i64))) :: ((.s (.o (.ptr 0 0 0 0))) :: ((.s (.o .bool)) :: ((.s (.o (.int .i64))) :: (ru2 48 [])))))))))), [⟨0, 4, true, (some [[(.o (.int .i64)), (.o (.int .i64)), (.o (.int .i64)), (.o (.int .i64))]])⟩], fun a H => (⟨(rL tV (slT a 0)), (toI (slT a 3)), (toI (slT a 4)), (toI (slT a 5)), (toB (slT a 7)), (toI (slT (rwT (elT H 0) 0) 0)), (toI (slT (rwT (elT H 0) 0) 1)), (toI (slT (rwT (elT H 0) 0) 2)), (toI (slT (rwT (elT H 0) 0) 3))⟩, ⟨(toI (slT a 8))⟩)⟩], A4, [(none, fun p s => ⟨[(b false)], []⟩), (some 6, fun p s => ⟨((eL tV p.f0) :: (.unk :: (.unk :: ((i p.is3) :: ((i p.is4) :: ((i p.is5) :: ((.ptr 0 0 0 0) :: ((b p.bs7) :: ((i s.is8) :: (ra 32 ((i s.is8) :: ((eL tV p.f0) :: ((i (↑(List.length p.f0) : Int)) :: ((b (decide (s.is8 < (↑(List.length p.f0) : Int)))) :: ((b true) :: ((b p.bs7) :: ((b p.bs7) :: (ra 9 [])))))))))))))))))), [⟨0, 4, [[(i p.f9), (i p.c7), (i p.g7), (i p.d9)]], true, false, 0⟩]⟩), (some 6, fun p s => ⟨((eL tV p.f0) :: (.unk :: (.unk :: ((i p.is3) :: ((i p.is4) :: ((i p.is5) :: ((.ptr 0 0 0 0) :: ((b p.bs7) :: ((i s.is8) :: (ra 32 ((i s.is8) :: ((eL tV p.f0) :: ((i (↑(List.length p.f0) : Int)) :: ((b (decide (s.is8 < (↑(List.length p.f0) : Int)))) :: ((b false) :: (u :: ((b false) :: (ra 9 [])))))))))))))))))), [⟨0, 4, [[(i p.f9), (i p.c7), (i p.g7), (i p.d9)]], true, false, 0⟩]⟩)], Fc8⟩
theorem Fc9 : sb4.Ok := Lo.ok [] (by kernel_rfl) .nil rfl (.cons (fun a H => by kernel_rfl) .nil) fun p s => (.of @W7 (fun F _ _ _ _ _ => by unfold W7; (repeat' apply n7 (f := F)) <;> rfl) (by kernel_rfl))
structure Ha3 where
 is3 : Int
 is4 : Int
structure aa7 where
 f0 : List V3
 is5 : Int
noncomputable def Gc0 (p : Ha3) (s : aa7) : St := ⟨((eL tV s.f0) :: (.unk :: (.unk :: ((i p.is3) :: ((i p.is4) :: ((i s.is5) :: (ra 51 []))))))), []⟩
noncomputable def da9 {α : Type} (k : aa7 → α) (e : Nat → α) (z : α) (p : Ha3) (s : aa7) : α := let t1 := (ia9 (gL tV s.f0 p.is3.toNat) (gL tV s.f0 p.is4.toNat) (gL tV s.f0 s.is5.toNat)); let t2 := (lp (A4 (⟨(rt tV s.f0), p.is3, p.is4, s.is5, t1.2, t1.1.n.x, t1.1.n.y, t1.1.n.z, t1.1.b⟩ : na9)) (⟨0⟩ : aa6)); (sl (decide (s.is5 < p.is4)) (sl (inB p.is3 (List.length s.f0)) (sl (inB p.is4 (List.length s.f0)) (sl (inB s.is5 (List.length s.f0)) (sl (ja0 (gL tV s.f0 p.is3.toNat) (gL tV s.f0 p.is4.toNat) (gL tV s.f0 s.is5.toNat)) (sl ((cnE tV s.f0) && true) (sl (Nat.beq t2.1 1) (e 1) (sl (Nat.beq t2.1 2) (k ⟨(rt tV s.f0), (W (s.is5 + 1))⟩) (sl (Nat.beq t2.1 3) (k ⟨(rt tV s.f0), (W (s.is5 + 1))⟩) z))) z) z) z) z) z) (e 2))
noncomputable def O1 (p : Ha3) (s : aa7) : Stp aa7 := da9 .next .exit .fail p s
noncomputable def sb5 : Lo Ha3 aa7 := ⟨En Qa3, 0, ed3, [1, 0, 1, 4, 4, 1, 0, 4, 1, 4, 4, 1, 0, 4, 1, 4, 4], [0, 3, 4, 5], (.s .p (.s (.b (.s .p (.s .p (.b (.u sb4.ls))))) .p)), [⟨((.s (.c 3 (nL tV))) :: ((.s (.o .unk)) :: ((.s (.o .unk)) :: ((.s (.o (.int .i64))) :: ((.s (.o (.int .i64))) :: ((.s (.o (.int .i64))) :: (ru2 51 []))))))), [], fun a H => (⟨(toI (slT a 3)), (toI (slT a 4))⟩, ⟨(rL tV (slT a 0)), (toI (slT a 5))⟩)⟩], O1, [(none, fun p s => ⟨[(b false)], []⟩), (some 4, fun p s => ⟨((eL tV s.f0) :: (.unk :: (.unk :: ((i p.is3) :: ((i p.is4) :: ((i s.is5) :: (ra 14 ((i s.is5) :: ((i p.is4) :: ((b (decide (s.is5 < p.is4))) :: (ra 34 []))))))))))), []⟩)], Gc0⟩
theorem Gc1 : sb5.Ok := Lo.ok [sb4.pr] (by kernel_rfl) (.cons Fc9 .nil) rfl (.cons (fun a H => by kernel_rfl) .nil) fun p s => (.of @da9 (fun F _ _ _ _ _ => by unfold da9; (repeat' apply n7 (f := F)) <;> rfl) (by kernel_rfl))
structure Ha4 where
 is3 : Int
structure aa8 where
 f0 : List V3
 is4 : Int
noncomputable def Gc2 (p : Ha4) (s : aa8) : St := ⟨((eL tV s.f0) :: (.unk :: (.unk :: ((i p.is3) :: ((i s.is4) :: (ra 52 [])))))), []⟩
noncomputable def ea0 {α : Type} (k : aa8 → α) (e : Nat → α) (z : α) (p : Ha4) (s : aa8) : α := let t1 := (lp (O1 (⟨p.is3, s.is4⟩ : Ha3)) (⟨(rt tV s.f0), 0⟩ : aa7)); (sl (decide (s.is4 < p.is3)) (sl ((cnE tV s.f0) && true) (sl (Nat.beq t1.1 1) (e 1) (sl (Nat.beq t1.1 2) (k ⟨t1.2.f0, (W (s.is4 + 1))⟩) z)) z) (e 2))
noncomputable def O2 (p : Ha4) (s : aa8) : Stp aa8 := ea0 .next .exit .fail p s
noncomputable def sb6 : Lo Ha4 aa8 := ⟨En Qa3, 0, ed3, [1, 0, 1, 4, 4, 1, 0, 4, 1, 4, 4], [0, 3, 4], (.s .p (.s (.b (.s .p (.b (.u sb5.ls)))) .p)), [⟨((.s (.c 3 (nL tV))) :: ((.s (.o .unk)) :: ((.s (.o .unk)) :: ((.s (.o (.int .i64))) :: ((.s (.o (.int .i64))) :: (ru2 52 [])))))), [], fun a H => (⟨(toI (slT a 3))⟩, ⟨(rL tV (slT a 0)), (toI (slT a 4))⟩)⟩], O2, [(none, fun p s => ⟨[(b false)], []⟩), (some 2, fun p s => ⟨((eL tV s.f0) :: (.unk :: (.unk :: ((i p.is3) :: ((i s.is4) :: (ra 10 ((i s.is4) :: ((i p.is3) :: ((b (decide (s.is4 < p.is3))) :: (ra 39 [])))))))))), []⟩)], Gc2⟩
theorem Gc3 : sb6.Ok := Lo.ok [sb5.pr] (by kernel_rfl) (.cons Gc1 .nil) rfl (.cons (fun a H => by kernel_rfl) .nil) fun p s => (.of @ea0 (fun F _ _ _ _ _ => by unfold ea0; (repeat' apply n7 (f := F)) <;> rfl) (by kernel_rfl))
structure Ha5 where
structure aa9 where
 f0 : List V3
 is3 : Int
noncomputable def Gc4 (p : Ha5) (s : aa9) : St := ⟨((eL tV s.f0) :: (.unk :: (.unk :: ((i s.is3) :: (ra 53 []))))), []⟩
noncomputable def ea1 {α : Type} (k : aa9 → α) (e : Nat → α) (z : α) (p : Ha5) (s : aa9) : α := let t1 := (lp (O2 (⟨s.is3⟩ : Ha4)) (⟨(rt tV s.f0), 0⟩ : aa8)); (sl (decide (s.is3 < (↑(List.length s.f0) : Int))) (sl ((cnE tV s.f0) && true) (sl (Nat.beq t1.1 1) (e 1) (sl (Nat.beq t1.1 2) (k ⟨t1.2.f0, (W (s.is3 + 1))⟩) z)) z) (e 2))
noncomputable def O3 (p : Ha5) (s : aa9) : Stp aa9 := ea1 .next .exit .fail p s
noncomputable def sb7 : Lo Ha5 aa9 := ⟨En Qa3, 0, ed3, [1, 0, 1, 4, 4], [0, 3], (.s .p (.s (.b (.s .p (.b (.u sb6.ls)))) .p)), [⟨((.s (.c 3 (nL tV))) :: ((.s (.o .unk)) :: ((.s (.o .unk)) :: ((.s (.o (.int .i64))) :: (ru2 53 []))))), [], fun a H => (⟨⟩, ⟨(rL tV (slT a 0)), (toI (slT a 3))⟩)⟩], O3, [(none, fun p s => ⟨[(b false)], []⟩), (some 0, fun p s => ⟨((eL tV s.f0) :: (.unk :: (.unk :: ((i s.is3) :: (ra 5 ((i s.is3) :: ((eL tV s.f0) :: ((i (↑(List.length s.f0) : Int)) :: ((b (decide (s.is3 < (↑(List.length s.f0) : Int)))) :: (ra 44 [])))))))))), []⟩)], Gc4⟩
theorem Gc5 : sb7.Ok := Lo.ok [sb6.pr] (by kernel_rfl) (.cons Gc3 .nil) rfl (.cons (fun a H => by kernel_rfl) .nil) fun p s => (.of @ea1 (fun F _ _ _ _ _ => by unfold ea1; (repeat' apply n7 (f := F)) <;> rfl) (by kernel_rfl))
noncomputable def Ca2 (x : List V3) : Option (b7 × List b8) := let t1 := (lp (O3 (⟨⟩ : Ha5)) (⟨(rt tV x), 0⟩ : aa9)); (sl ((cnE tV x) && true) (sl (Nat.beq t1.1 1) (some ((b false), [])) (sl (Nat.beq t1.1 2) (some ((b true), [])) none)) none)
noncomputable def Ca3 (x : List V3) : Bool := O4 (one r1B) (Ca2 x)
noncomputable def La7 (x : List V3) : Bool := okO (one r1B) (Ca2 x)
noncomputable def Ob4 : Sum := ia6 (ga9 tV) (fun x => .guard (La7 x) (.ret ((one r1B).enc (Ca3 x), [])))
theorem hc9 : j7 prog G 124 Ob4 := Ba4 (bd Je4 Uc8) (one r1B) (o := Ca2) fun x => Ba5 (.s .p (.s (.s .p (.b (.u sb7.ls))) .p)) [sb7.pr] (by kernel_rfl) (.cons Gc5 .nil) (by kernel_rfl)
noncomputable def Vb8 : List (Nat × Sum) := [(109, Vb7), (124, Ob4)]
theorem Gc6 : l5 prog G Vb8 := ⟨dc3, hc9, trivial⟩
structure ya9 where
 f0 : List V3
structure K2 where
 is3 : Int
noncomputable def xc9 (p : ya9) (s : K2) : St := ⟨((eL tV p.f0) :: (.unk :: (.unk :: ((i s.is3) :: (ra 17 []))))), []⟩
noncomputable def Y6 {α : Type} (k : K2 → α) (e : Nat → α) (z : α) (p : ya9) (s : K2) : α := let t1 := (Qa1 (gL tV p.f0 s.is3.toNat)); (sl (decide (s.is3 < (↑(List.length p.f0) : Int))) (sl (inB s.is3 (List.length p.f0)) (sl (Qa2 (gL tV p.f0 s.is3.toNat)) (sl (!t1) (e 1) (k ⟨(W (s.is3 + 1))⟩)) z) z) (e 2))
noncomputable def W8 (p : ya9) (s : K2) : Stp K2 := Y6 .next .exit .fail p s
noncomputable def kb4 : Lo ya9 K2 := ⟨En Vb8, 0, je8, [1, 1, 0, 1, 4, 4], [0, 3], .p, [⟨((.s (.c 3 (nL tV))) :: ((.s (.o .unk)) :: ((.s (.o .unk)) :: ((.s (.o (.int .i64))) :: (ru2 17 []))))), [], fun a H => (⟨(rL tV (slT a 0))⟩, ⟨(toI (slT a 3))⟩)⟩], W8, [(none, fun p s => ⟨[(i 3)], []⟩), (some 0, fun p s => ⟨((eL tV p.f0) :: (.unk :: (.unk :: ((i s.is3) :: (ra 3 ((i s.is3) :: ((eL tV p.f0) :: ((i (↑(List.length p.f0) : Int)) :: ((b (decide (s.is3 < (↑(List.length p.f0) : Int)))) :: (ra 10 [])))))))))), []⟩)], xc9⟩
theorem yc0 : kb4.Ok := Lo.ok [] (by kernel_rfl) .nil rfl (.cons (fun a H => by kernel_rfl) .nil) fun p s => (.of @Y6 (fun F _ _ _ _ _ => by unfold Y6; (repeat' apply n7 (f := F)) <;> rfl) (by kernel_rfl))
noncomputable def ua4 (x : List V3) : Option (b7 × List b8) := let t1 := (lp (W8 (⟨(rt tV x)⟩ : ya9)) (⟨0⟩ : K2)); let t2 := (Ca3 (rt tV (rt tV x))); (sl (decide ((↑(List.length x) : Int) > 48)) (some ((i 2), [])) (sl ((cnE tV x) && true) (sl (Nat.beq t1.1 1) (some ((i 3), [])) (sl (Nat.beq t1.1 2) (sl (okE tV (rt tV x)) (sl (La7 (rt tV (rt tV x))) (sl t2 (some ((i 11), [])) (some ((i 0), []))) none) none) none)) none))
noncomputable def Qa4 (x : List V3) : Int := O4 (one r1I) (ua4 x)
noncomputable def Cb3 (x : List V3) : Bool := okO (one r1I) (ua4 x)
noncomputable def ic0 : Sum := ia6 (ga9 tV) (fun x => .guard (Cb3 x) (.ret ((one r1I).enc (Qa4 x), [])))
theorem Uc9 : j7 prog G 182 ic0 := Ba4 (bd Le5 Gc6) (one r1I) (o := ua4) fun x => Ba5 (.s .p (.s .p (.s (.s .p (.b (.u kb4.ls))) .p))) [kb4.pr] (by kernel_rfl) (.cons yc0 .nil) (by kernel_rfl)
noncomputable def Vb9 : List (Nat × Sum) := [(194, Ob3)]
theorem Gc7 : l5 prog G Vb9 := ⟨hc8, trivial⟩
structure za0 where
 Yb3 : List V3
 f9 : Int
 c7 : Int
 g7 : Int
 d9 : Int
structure K3 where
 is5 : Int
noncomputable def yc1 (p : za0) (s : K3) : St := ⟨(.unk :: ((eL tV p.Yb3) :: ((.ptr 0 0 0 0) :: (.unk :: (.unk :: ((i s.is5) :: (ra 13 []))))))), [⟨0, 4, [[(i p.f9), (i p.c7), (i p.g7), (i p.d9)]], true, false, 0⟩]⟩
noncomputable def Y7 {α : Type} (k : K3 → α) (e : Nat → α) (z : α) (p : za0) (s : K3) : α := let t1 := (La6 (⟨(⟨p.f9, p.c7, p.g7⟩ : V3), p.d9⟩ : Pln) (gL tV p.Yb3 s.is5.toNat)); (sl (decide (s.is5 < (↑(List.length p.Yb3) : Int))) (sl (inB s.is5 (List.length p.Yb3)) (sl (sb3 (⟨(⟨p.f9, p.c7, p.g7⟩ : V3), p.d9⟩ : Pln) (gL tV p.Yb3 s.is5.toNat)) (sl (decide (t1 > 0)) (e 1) (k ⟨(W (s.is5 + 1))⟩)) z) z) (e 2))
noncomputable def W9 (p : za0) (s : K3) : Stp K3 := Y7 .next .exit .fail p s
noncomputable def kb5 : Lo za0 K3 := ⟨En Vb9, 0, je9, [1, 0, 1, 4, 4], [1, 2, 5], .p, [⟨((.s (.o .unk)) :: ((.s (.c 3 (nL tV))) :: ((.s (.o (.ptr 0 0 0 0))) :: ((.s (.o .unk)) :: ((.s (.o .unk)) :: ((.s (.o (.int .i64))) :: (ru2 13 []))))))), [⟨0, 4, true, (some [[(.o (.int .i64)), (.o (.int .i64)), (.o (.int .i64)), (.o (.int .i64))]])⟩], fun a H => (⟨(rL tV (slT a 1)), (toI (slT (rwT (elT H 0) 0) 0)), (toI (slT (rwT (elT H 0) 0) 1)), (toI (slT (rwT (elT H 0) 0) 2)), (toI (slT (rwT (elT H 0) 0) 3))⟩, ⟨(toI (slT a 5))⟩)⟩], W9, [(none, fun p s => ⟨[(b false)], []⟩), (some 0, fun p s => ⟨(.unk :: ((eL tV p.Yb3) :: ((.ptr 0 0 0 0) :: (.unk :: (.unk :: ((i s.is5) :: ((i s.is5) :: ((eL tV p.Yb3) :: ((i (↑(List.length p.Yb3) : Int)) :: ((b (decide (s.is5 < (↑(List.length p.Yb3) : Int)))) :: (ra 9 []))))))))))), [⟨0, 4, [[(i p.f9), (i p.c7), (i p.g7), (i p.d9)]], true, false, 0⟩]⟩)], yc1⟩
theorem yc2 : kb5.Ok := Lo.ok [] (by kernel_rfl) .nil rfl (.cons (fun a H => by kernel_rfl) .nil) fun p s => (.of @Y7 (fun F _ _ _ _ _ => by unfold Y7; (repeat' apply n7 (f := F)) <;> rfl) (by kernel_rfl))
noncomputable def ua5 (x : Pln) (y : List V3) : Option (b7 × List b8) := let t1 := (lp (W9 (⟨(rt tV y), x.n.x, x.n.y, x.n.z, x.b⟩ : za0)) (⟨0⟩ : K3)); (sl ((cnE tV y) && true) (sl (Nat.beq t1.1 1) (some ((b false), [])) (sl (Nat.beq t1.1 2) (some ((b true), [])) none)) none)
noncomputable def na2 (x : Pln) (y : List V3) : Bool := O4 (one r1B) (ua5 x y)
noncomputable def ca3 (x : Pln) (y : List V3) : Bool := okO (one r1B) (ua5 x y)
noncomputable def ic1 : Sum := ja9 (V6 tP) (ga9 tV) (fun x y => .guard (ca3 x y) (.ret ((one r1B).enc (na2 x y), [])))
theorem Vc0 : j7 prog G 183 ic1 := lb8 (bd Le6 Gc7) (one r1B) (o := ua5) fun x y => Ba5 (.s .p (.s (.s .p (.b (.u kb5.ls))) .p)) [kb5.pr] (by kernel_rfl) (.cons yc2 .nil) (by kernel_rfl)
noncomputable def yc3 : List (Nat × Sum) := [(180, Kb6)]
theorem id5 : l5 prog G yc3 := ⟨xc8, trivial⟩
structure Qa5 where
 c9 : List Pln
 f9 : Int
 c7 : Int
 g7 : Int
 d9 : Int
structure X0 where
 is5 : Int
noncomputable def Vc1 (p : Qa5) (s : X0) : St := ⟨((eL tP p.c9) :: (.unk :: (.unk :: ((.ptr 0 0 0 0) :: (.unk :: ((i s.is5) :: (ra 42 []))))))), [⟨0, 4, [[(i p.f9), (i p.c7), (i p.g7), (i p.d9)]], true, false, 0⟩]⟩
noncomputable def ja3 {α : Type} (k : X0 → α) (e : Nat → α) (z : α) (p : Qa5) (s : X0) : α := let t1 := (ja2 (gL tP p.c9 s.is5.toNat) (⟨(⟨p.f9, p.c7, p.g7⟩ : V3), p.d9⟩ : Pln)); (sl (decide (s.is5 < (↑(List.length p.c9) : Int))) (sl (inB s.is5 (List.length p.c9)) (sl (kb3 (gL tP p.c9 s.is5.toNat) (⟨(⟨p.f9, p.c7, p.g7⟩ : V3), p.d9⟩ : Pln)) (sl (decide (t1 < 0)) (k ⟨(W (s.is5 + 1))⟩) (e 1)) z) z) (e 2))
noncomputable def V1 (p : Qa5) (s : X0) : Stp X0 := ja3 .next .exit .fail p s
noncomputable def Cb4 : Lo Qa5 X0 := ⟨En yc3, 0, ke0, [1, 1, 0, 4, 4], [0, 3, 5], .p, [⟨((.s (.c 4 (nL tP))) :: ((.s (.o .unk)) :: ((.s (.o .unk)) :: ((.s (.o (.ptr 0 0 0 0))) :: ((.s (.o .unk)) :: ((.s (.o (.int .i64))) :: (ru2 42 []))))))), [⟨0, 4, true, (some [[(.o (.int .i64)), (.o (.int .i64)), (.o (.int .i64)), (.o (.int .i64))]])⟩], fun a H => (⟨(rL tP (slT a 0)), (toI (slT (rwT (elT H 0) 0) 0)), (toI (slT (rwT (elT H 0) 0) 1)), (toI (slT (rwT (elT H 0) 0) 2)), (toI (slT (rwT (elT H 0) 0) 3))⟩, ⟨(toI (slT a 5))⟩)⟩], V1, [(some 0, fun p s => let t1 := (ja2 (gL tP p.c9 s.is5.toNat) (⟨(⟨p.f9, p.c7, p.g7⟩ : V3), p.d9⟩ : Pln)); ⟨((eL tP p.c9) :: (.unk :: (.unk :: ((.ptr 0 0 0 0) :: (.unk :: ((i s.is5) :: (.unk :: ((i s.is5) :: ((eL tP p.c9) :: ((i (↑(List.length p.c9) : Int)) :: ((b (decide (s.is5 < (↑(List.length p.c9) : Int)))) :: ((b true) :: ((eL tP p.c9) :: ((i s.is5) :: ((.tptr [(i (gL tP p.c9 s.is5.toNat).n.x), (i (gL tP p.c9 s.is5.toNat).n.y), (i (gL tP p.c9 s.is5.toNat).n.z), (i (gL tP p.c9 s.is5.toNat).b)]) :: ((.agg [(i (gL tP p.c9 s.is5.toNat).n.x), (i (gL tP p.c9 s.is5.toNat).n.y), (i (gL tP p.c9 s.is5.toNat).n.z), (i (gL tP p.c9 s.is5.toNat).b)]) :: ((.agg [(i p.f9), (i p.c7), (i p.g7), (i p.d9)]) :: ((i t1) :: ((b (decide (t1 < 0))) :: ((b (decide (t1 < 0))) :: (ra 28 []))))))))))))))))))))), [⟨0, 4, [[(i p.f9), (i p.c7), (i p.g7), (i p.d9)]], true, false, 0⟩]⟩), (some 0, fun p s => ⟨((eL tP p.c9) :: (.unk :: (.unk :: ((.ptr 0 0 0 0) :: (.unk :: ((i s.is5) :: (.unk :: ((i s.is5) :: ((eL tP p.c9) :: ((i (↑(List.length p.c9) : Int)) :: ((b (decide (s.is5 < (↑(List.length p.c9) : Int)))) :: ((b false) :: (u :: (u :: (u :: (u :: (u :: (u :: (u :: ((b false) :: (ra 28 []))))))))))))))))))))), [⟨0, 4, [[(i p.f9), (i p.c7), (i p.g7), (i p.d9)]], true, false, 0⟩]⟩)], Vc1⟩
theorem Vc2 : Cb4.Ok := Lo.ok [] (by kernel_rfl) .nil rfl (.cons (fun a H => by kernel_rfl) .nil) fun p s => (.of @ja3 (fun F _ _ _ _ _ => by unfold ja3; (repeat' apply n7 (f := F)) <;> rfl) (by kernel_rfl))
noncomputable def La8 (x : List Pln) (y : Pln) : Option (b7 × List b8) := let t1 := (lp (V1 (⟨(rt tP x), y.n.x, y.n.y, y.n.z, y.b⟩ : Qa5)) (⟨0⟩ : X0)); let a0 := (o7 (fun k => (fun k => (tP).row (gL tP (rt tP x) k)) (0 + k)) (List.range (t1.2.is5.toNat - 0))); let a1 := (o7 (fun k => (fun k => (tP).row (gL tP (rt tP x) k)) (t1.2.is5.toNat + k)) (List.range ((List.length (rt tP x)) - t1.2.is5.toNat))); let a2 := (inB t1.2.is5 ((List.length (rt tP x)) + 1)); let a3 := (Nat.beq (0 + (len a0)) (len (app [] a0)) && Nat.ble (((0 + (len a0)) + 1) * 32) room); let a4 := (((0 + (len a0)) + 1) + (len a1)); let a5 := (gL tP (rt tP x) t1.2.is5.toNat); let a6 := (Nat.beq 1 1 && Nat.ble ((1 + (len a1)) * 32) room); let a7 := (Nat.beq 0 0 && Nat.ble ((0 + (len a0)) * 32) room); (sl ((cnE tP x) && true) (sl (Nat.beq t1.1 1) (sl (decide (t1.2.is5 < (↑(List.length (rt tP x)) : Int))) (sl (inB t1.2.is5 (List.length (rt tP x))) (sl ((a5.n.x == y.n.x) && ((a5.n.y == y.n.y) && ((a5.n.z == y.n.z) && ((a5.b == y.b) && true)))) (some ((eL tP (rt tP x)), [])) (sl a2 (sl (Nat.beq (len a0) 0) (sl a2 (sl (Nat.beq (len a1) 0) (some ((.sl 0 0 1 0), [⟨50, 4, [[(i y.n.x), (i y.n.y), (i y.n.z), (i y.b)]], true, false, 0⟩])) (sl a6 (some ((.sl 0 0 (1 + (len a1)) 0), [⟨50, 4, (app [[(i y.n.x), (i y.n.y), (i y.n.z), (i y.b)]] a1), true, false, 0⟩])) none)) none) (sl a7 (sl a3 (sl a2 (sl (Nat.beq (len a1) 0) (some ((.sl 0 0 ((0 + (len a0)) + 1) 0), [⟨50, 4, (app (app [] a0) [[(i y.n.x), (i y.n.y), (i y.n.z), (i y.b)]]), true, false, 0⟩])) (sl (Nat.beq ((0 + (len a0)) + 1) (len (app (app [] a0) [[(i y.n.x), (i y.n.y), (i y.n.z), (i y.b)]])) && Nat.ble (a4 * 32) room) (some ((.sl 0 0 a4 0), [⟨50, 4, (app (app (app [] a0) [[(i y.n.x), (i y.n.y), (i y.n.z), (i y.b)]]) a1), true, false, 0⟩])) none)) none) none) none)) none)) none) (sl a2 (sl (Nat.beq (len a0) 0) (sl a2 (sl (Nat.beq (len a1) 0) (some ((.sl 0 0 1 0), [⟨50, 4, [[(i y.n.x), (i y.n.y), (i y.n.z), (i y.b)]], true, false, 0⟩])) (sl a6 (some ((.sl 0 0 (1 + (len a1)) 0), [⟨50, 4, (app [[(i y.n.x), (i y.n.y), (i y.n.z), (i y.b)]] a1), true, false, 0⟩])) none)) none) (sl a7 (sl a3 (sl a2 (sl (Nat.beq (len a1) 0) (some ((.sl 0 0 ((0 + (len a0)) + 1) 0), [⟨50, 4, (app (app [] a0) [[(i y.n.x), (i y.n.y), (i y.n.z), (i y.b)]]), true, false, 0⟩])) (sl (Nat.beq ((0 + (len a0)) + 1) (len (app (app [] a0) [[(i y.n.x), (i y.n.y), (i y.n.z), (i y.b)]])) && Nat.ble (a4 * 32) room) (some ((.sl 0 0 a4 0), [⟨50, 4, (app (app (app [] a0) [[(i y.n.x), (i y.n.y), (i y.n.z), (i y.b)]]) a1), true, false, 0⟩])) none)) none) none) none)) none)) (sl (Nat.beq t1.1 2) (sl (decide (t1.2.is5 < (↑(List.length (rt tP x)) : Int))) (sl (inB t1.2.is5 (List.length (rt tP x))) (sl ((a5.n.x == y.n.x) && ((a5.n.y == y.n.y) && ((a5.n.z == y.n.z) && ((a5.b == y.b) && true)))) (some ((eL tP (rt tP x)), [])) (sl a2 (sl (Nat.beq (len a0) 0) (sl a2 (sl (Nat.beq (len a1) 0) (some ((.sl 0 0 1 0), [⟨50, 4, [[(i y.n.x), (i y.n.y), (i y.n.z), (i y.b)]], true, false, 0⟩])) (sl a6 (some ((.sl 0 0 (1 + (len a1)) 0), [⟨50, 4, (app [[(i y.n.x), (i y.n.y), (i y.n.z), (i y.b)]] a1), true, false, 0⟩])) none)) none) (sl a7 (sl a3 (sl a2 (sl (Nat.beq (len a1) 0) (some ((.sl 0 0 ((0 + (len a0)) + 1) 0), [⟨50, 4, (app (app [] a0) [[(i y.n.x), (i y.n.y), (i y.n.z), (i y.b)]]), true, false, 0⟩])) (sl (Nat.beq ((0 + (len a0)) + 1) (len (app (app [] a0) [[(i y.n.x), (i y.n.y), (i y.n.z), (i y.b)]])) && Nat.ble (a4 * 32) room) (some ((.sl 0 0 a4 0), [⟨50, 4, (app (app (app [] a0) [[(i y.n.x), (i y.n.y), (i y.n.z), (i y.b)]]) a1), true, false, 0⟩])) none)) none) none) none)) none)) none) (sl a2 (sl (Nat.beq (len a0) 0) (sl a2 (sl (Nat.beq (len a1) 0) (some ((.sl 0 0 1 0), [⟨50, 4, [[(i y.n.x), (i y.n.y), (i y.n.z), (i y.b)]], true, false, 0⟩])) (sl a6 (some ((.sl 0 0 (1 + (len a1)) 0), [⟨50, 4, (app [[(i y.n.x), (i y.n.y), (i y.n.z), (i y.b)]] a1), true, false, 0⟩])) none)) none) (sl a7 (sl a3 (sl a2 (sl (Nat.beq (len a1) 0) (some ((.sl 0 0 ((0 + (len a0)) + 1) 0), [⟨50, 4, (app (app [] a0) [[(i y.n.x), (i y.n.y), (i y.n.z), (i y.b)]]), true, false, 0⟩])) (sl (Nat.beq ((0 + (len a0)) + 1) (len (app (app [] a0) [[(i y.n.x), (i y.n.y), (i y.n.z), (i y.b)]])) && Nat.ble (a4 * 32) room) (some ((.sl 0 0 a4 0), [⟨50, 4, (app (app (app [] a0) [[(i y.n.x), (i y.n.y), (i y.n.z), (i y.b)]]) a1), true, false, 0⟩])) none)) none) none) none)) none)) none)) none)
noncomputable def D0 (x : List Pln) (y : Pln) : List Pln := O4 (one (r1L tP)) (La8 x y)
noncomputable def ga3 (x : List Pln) (y : Pln) : Bool := okO (one (r1L tP)) (La8 x y)
noncomputable def Mc8 : Sum := ja9 (ga9 tP) (V6 tP) (fun x y => .guard (ga3 x y) (.ret ((one (r1L tP)).enc (D0 x y), [])))
theorem td2 : j7 prog G 184 Mc8 := lb8 (bd Le7 id5) (one (r1L tP)) (o := La8) fun x y => Ba5 (.s .p (.s .p (.s (.b (.u Cb4.ls)) .p))) [Cb4.pr] (by kernel_rfl) (.cons Vc2 .nil) (by kernel_rfl)
noncomputable def Wa3 : List (Nat × Sum) := [(182, ic0), (115, Na1), (183, ic1), (184, Mc8), (119, xc7)]
theorem Gc8 : l5 prog G Wa3 := ⟨Uc9, bb4, Vc0, td2, id3, trivial⟩
structure V2 where
 f0 : List V3
 is6 : Int
 is7 : Int
structure s5 where
 ph : Nat
 is8 : Int
 ea7 : List Pln
noncomputable def lc3 (p : V2) (s : s5) : St := ⟨((eL tV p.f0) :: (ra 4 ((.v (.slice none 0 0)) :: ((i p.is6) :: ((i p.is7) :: ((i s.is8) :: (ra 56 []))))))), []⟩
noncomputable def lc4 (p : V2) (s : s5) : St := ⟨((eL tV p.f0) :: (ra 4 ((eL tP s.ea7) :: ((i p.is6) :: ((i p.is7) :: ((i s.is8) :: (ra 56 []))))))), []⟩
noncomputable def yc4 (p : V2) (s : s5) : St := (sel (Nat.beq s.ph 1) (lc4 p s) (lc3 p s))
noncomputable def E2 {α : Type} (k : s5 → α) (e : Nat → α) (z : α) (p : V2) (s : s5) : α := let t1 := (ia9 (gL tV p.f0 p.is6.toNat) (gL tV p.f0 p.is7.toNat) (gL tV p.f0 s.is8.toNat)); let t2 := (na2 t1.1 (rt tV p.f0)); let t3 := (D0 [] t1.1); let t4 := (La5 t1.1); let t5 := (na2 t4 (rt tV p.f0)); let t6 := (D0 (rt tP t3) t4); let t7 := (D0 [] t4); (sl (decide (s.is8 < p.is7)) (sl (inB p.is6 (List.length p.f0)) (sl (inB p.is7 (List.length p.f0)) (sl (inB s.is8 (List.length p.f0)) (sl (ja0 (gL tV p.f0 p.is6.toNat) (gL tV p.f0 p.is7.toNat) (gL tV p.f0 s.is8.toNat)) (sl (!t1.2) (k ⟨0, (W (s.is8 + 1)), []⟩) (sl (okE tV p.f0) (sl (ca3 t1.1 (rt tV p.f0)) (sl t2 (sl (ga3 [] t1.1) (sl (okE tV p.f0) (sl (ca3 t4 (rt tV p.f0)) (sl t5 (sl (okE tP t3) (sl (ga3 (rt tP t3) t4) (k ⟨1, (W (s.is8 + 1)), t6⟩) z) z) (k ⟨1, (W (s.is8 + 1)), t3⟩)) z) z) z) (sl (okE tV p.f0) (sl (ca3 t4 (rt tV p.f0)) (sl t5 (sl (ga3 [] t4) (k ⟨1, (W (s.is8 + 1)), t7⟩) z) (k ⟨0, (W (s.is8 + 1)), []⟩)) z) z)) z) z)) z) z) z) z) (e 1))
noncomputable def E3 {α : Type} (k : s5 → α) (e : Nat → α) (z : α) (p : V2) (s : s5) : α := let t1 := (ia9 (gL tV p.f0 p.is6.toNat) (gL tV p.f0 p.is7.toNat) (gL tV p.f0 s.is8.toNat)); let t2 := (na2 t1.1 (rt tV p.f0)); let t3 := (D0 (rt tP s.ea7) t1.1); let t4 := (La5 t1.1); let t5 := (na2 t4 (rt tV p.f0)); let t6 := (D0 (rt tP t3) t4); let t7 := (D0 (rt tP s.ea7) t4); (sl (decide (s.is8 < p.is7)) (sl (inB p.is6 (List.length p.f0)) (sl (inB p.is7 (List.length p.f0)) (sl (inB s.is8 (List.length p.f0)) (sl (ja0 (gL tV p.f0 p.is6.toNat) (gL tV p.f0 p.is7.toNat) (gL tV p.f0 s.is8.toNat)) (sl (!t1.2) (k ⟨1, (W (s.is8 + 1)), s.ea7⟩) (sl (okE tV p.f0) (sl (ca3 t1.1 (rt tV p.f0)) (sl t2 (sl (okE tP s.ea7) (sl (ga3 (rt tP s.ea7) t1.1) (sl (okE tV p.f0) (sl (ca3 t4 (rt tV p.f0)) (sl t5 (sl (okE tP t3) (sl (ga3 (rt tP t3) t4) (k ⟨1, (W (s.is8 + 1)), t6⟩) z) z) (k ⟨1, (W (s.is8 + 1)), t3⟩)) z) z) z) z) (sl (okE tV p.f0) (sl (ca3 t4 (rt tV p.f0)) (sl t5 (sl (okE tP s.ea7) (sl (ga3 (rt tP s.ea7) t4) (k ⟨1, (W (s.is8 + 1)), t7⟩) z) z) (k ⟨1, (W (s.is8 + 1)), s.ea7⟩)) z) z)) z) z)) z) z) z) z) (e 2))
noncomputable def Q1 (p : V2) (s : s5) : Stp s5 := (sel (Nat.beq s.ph 1) (E3 .next .exit .fail p s) (E2 .next .exit .fail p s))
noncomputable def kb6 : Lo V2 s5 := ⟨En Wa3, 0, xd6, [1, 1, 1, 1, 0, 1, 4, 4, 1, 0, 4, 1, 4, 4, 1, 0, 4, 1, 4, 4], [0, 5, 6, 7, 8], .p, [⟨((.s (.c 3 (nL tV))) :: (ru2 4 ((.s (.o .nil)) :: ((.s (.o (.int .i64))) :: ((.s (.o (.int .i64))) :: ((.s (.o (.int .i64))) :: (ru2 56 []))))))), [], fun a H => (⟨(rL tV (slT a 0)), (toI (slT a 6)), (toI (slT a 7))⟩, ⟨0, (toI (slT a 8)), []⟩)⟩, ⟨((.s (.c 3 (nL tV))) :: (ru2 4 ((.s (.c 4 (nL tP))) :: ((.s (.o (.int .i64))) :: ((.s (.o (.int .i64))) :: ((.s (.o (.int .i64))) :: (ru2 56 []))))))), [], fun a H => (⟨(rL tV (slT a 0)), (toI (slT a 6)), (toI (slT a 7))⟩, ⟨1, (toI (slT a 8)), (rL tP (slT a 5))⟩)⟩], Q1, [(some 4, fun p s => ⟨((eL tV p.f0) :: (ra 4 ((.v (.slice none 0 0)) :: ((i p.is6) :: ((i p.is7) :: ((i s.is8) :: (ra 18 ((i s.is8) :: ((i p.is7) :: ((b (decide (s.is8 < p.is7))) :: (ra 35 []))))))))))), []⟩), (some 4, fun p s => ⟨((eL tV p.f0) :: (ra 4 ((eL tP s.ea7) :: ((i p.is6) :: ((i p.is7) :: ((i s.is8) :: (ra 18 ((i s.is8) :: ((i p.is7) :: ((b (decide (s.is8 < p.is7))) :: (ra 35 []))))))))))), []⟩)], yc4⟩
theorem yc5 : kb6.Ok := Lo.ok [] (by kernel_rfl) .nil rfl (.cons (fun a H => by kernel_rfl) (.cons (fun a H => by kernel_rfl) .nil)) fun p s => (.sel (Nat.beq s.ph 1) (.of @E3 (fun F _ _ _ _ _ => by unfold E3; (repeat' apply n7 (f := F)) <;> rfl) (by kernel_rfl)) (.of @E2 (fun F _ _ _ _ _ => by unfold E2; (repeat' apply n7 (f := F)) <;> rfl) (by kernel_rfl)))
structure V4 where
 is6 : Int
structure s6 where
 ph : Nat
 f0 : List V3
 is7 : Int
 ea7 : List Pln
noncomputable def lc5 (p : V4) (s : s6) : St := ⟨((eL tV s.f0) :: (ra 4 ((.v (.slice none 0 0)) :: ((i p.is6) :: ((i s.is7) :: (ra 57 [])))))), []⟩
noncomputable def lc6 (p : V4) (s : s6) : St := ⟨((eL tV s.f0) :: (ra 4 ((eL tP s.ea7) :: ((i p.is6) :: ((i s.is7) :: (ra 57 [])))))), []⟩
noncomputable def yc6 (p : V4) (s : s6) : St := (sel (Nat.beq s.ph 1) (lc6 p s) (lc5 p s))
noncomputable def E4 {α : Type} (k : s6 → α) (e : Nat → α) (z : α) (p : V4) (s : s6) : α := let t1 := (lp (Q1 (⟨(rt tV s.f0), p.is6, s.is7⟩ : V2)) (⟨0, 0, []⟩ : s5)); (sl (decide (s.is7 < p.is6)) (sl ((cnE tV s.f0) && true) (sl (Nat.beq t1.1 1) (k ⟨0, (rt tV s.f0), (W (s.is7 + 1)), []⟩) (sl (Nat.beq t1.1 2) (k ⟨1, (rt tV s.f0), (W (s.is7 + 1)), t1.2.ea7⟩) z)) z) (e 1))
noncomputable def E5 {α : Type} (k : s6 → α) (e : Nat → α) (z : α) (p : V4) (s : s6) : α := let t1 := (lp (Q1 (⟨(rt tV s.f0), p.is6, s.is7⟩ : V2)) (⟨1, 0, (rt tP s.ea7)⟩ : s5)); (sl (decide (s.is7 < p.is6)) (sl ((cnE tV s.f0) && ((cnE tP s.ea7) && true)) (sl (Nat.beq t1.1 1) (k ⟨0, (rt tV s.f0), (W (s.is7 + 1)), []⟩) (sl (Nat.beq t1.1 2) (k ⟨1, (rt tV s.f0), (W (s.is7 + 1)), t1.2.ea7⟩) z)) z) (e 2))
noncomputable def Q3 (p : V4) (s : s6) : Stp s6 := (sel (Nat.beq s.ph 1) (E5 .next .exit .fail p s) (E4 .next .exit .fail p s))
noncomputable def kb7 : Lo V4 s6 := ⟨En Wa3, 0, xd6, [1, 1, 1, 1, 0, 1, 4, 4, 1, 0, 4, 1, 4, 4], [0, 5, 6, 7], (.s .p (.s (.b (.s .p (.b (.u kb6.ls)))) .p)), [⟨((.s (.c 3 (nL tV))) :: (ru2 4 ((.s (.o .nil)) :: ((.s (.o (.int .i64))) :: ((.s (.o (.int .i64))) :: (ru2 57 [])))))), [], fun a H => (⟨(toI (slT a 6))⟩, ⟨0, (rL tV (slT a 0)), (toI (slT a 7)), []⟩)⟩, ⟨((.s (.c 3 (nL tV))) :: (ru2 4 ((.s (.c 4 (nL tP))) :: ((.s (.o (.int .i64))) :: ((.s (.o (.int .i64))) :: (ru2 57 [])))))), [], fun a H => (⟨(toI (slT a 6))⟩, ⟨1, (rL tV (slT a 0)), (toI (slT a 7)), (rL tP (slT a 5))⟩)⟩], Q3, [(some 2, fun p s => ⟨((eL tV s.f0) :: (ra 4 ((.v (.slice none 0 0)) :: ((i p.is6) :: ((i s.is7) :: (ra 14 ((i s.is7) :: ((i p.is6) :: ((b (decide (s.is7 < p.is6))) :: (ra 40 [])))))))))), []⟩), (some 2, fun p s => ⟨((eL tV s.f0) :: (ra 4 ((eL tP s.ea7) :: ((i p.is6) :: ((i s.is7) :: (ra 14 ((i s.is7) :: ((i p.is6) :: ((b (decide (s.is7 < p.is6))) :: (ra 40 [])))))))))), []⟩)], yc6⟩
theorem yc7 : kb7.Ok := Lo.ok [kb6.pr] (by kernel_rfl) (.cons yc5 .nil) rfl (.cons (fun a H => by kernel_rfl) (.cons (fun a H => by kernel_rfl) .nil)) fun p s => (.sel (Nat.beq s.ph 1) (.of @E5 (fun F _ _ _ _ _ => by unfold E5; (repeat' apply n7 (f := F)) <;> rfl) (by kernel_rfl)) (.of @E4 (fun F _ _ _ _ _ => by unfold E4; (repeat' apply n7 (f := F)) <;> rfl) (by kernel_rfl)))
structure ca4 where
structure v7 where
 ph : Nat
 f0 : List V3
 is6 : Int
 ea7 : List Pln
noncomputable def lc7 (p : ca4) (s : v7) : St := ⟨((eL tV s.f0) :: (ra 4 ((.v (.slice none 0 0)) :: ((i s.is6) :: (ra 58 []))))), []⟩
noncomputable def lc8 (p : ca4) (s : v7) : St := ⟨((eL tV s.f0) :: (ra 4 ((eL tP s.ea7) :: ((i s.is6) :: (ra 58 []))))), []⟩
noncomputable def yc8 (p : ca4) (s : v7) : St := (sel (Nat.beq s.ph 1) (lc8 p s) (lc7 p s))
noncomputable def E6 {α : Type} (k : v7 → α) (e : Nat → α) (z : α) (p : ca4) (s : v7) : α := let t1 := (lp (Q3 (⟨s.is6⟩ : V4)) (⟨0, (rt tV s.f0), 0, []⟩ : s6)); (sl (decide (s.is6 < (↑(List.length s.f0) : Int))) (sl ((cnE tV s.f0) && true) (sl (Nat.beq t1.1 1) (k ⟨0, t1.2.f0, (W (s.is6 + 1)), []⟩) (sl (Nat.beq t1.1 2) (k ⟨1, t1.2.f0, (W (s.is6 + 1)), t1.2.ea7⟩) z)) z) (e 1))
noncomputable def E7 {α : Type} (k : v7 → α) (e : Nat → α) (z : α) (p : ca4) (s : v7) : α := let t1 := (lp (Q3 (⟨s.is6⟩ : V4)) (⟨1, (rt tV s.f0), 0, (rt tP s.ea7)⟩ : s6)); (sl (decide (s.is6 < (↑(List.length s.f0) : Int))) (sl ((cnE tV s.f0) && ((cnE tP s.ea7) && true)) (sl (Nat.beq t1.1 1) (k ⟨0, t1.2.f0, (W (s.is6 + 1)), []⟩) (sl (Nat.beq t1.1 2) (k ⟨1, t1.2.f0, (W (s.is6 + 1)), t1.2.ea7⟩) z)) z) (e 2))
noncomputable def la6 (p : ca4) (s : v7) : Stp v7 := (sel (Nat.beq s.ph 1) (E7 .next .exit .fail p s) (E6 .next .exit .fail p s))
noncomputable def kb8 : Lo ca4 v7 := ⟨En Wa3, 0, xd6, [1, 1, 1, 1, 0, 1, 4, 4], [0, 5, 6], (.s .p (.s (.b (.s .p (.b (.u kb7.ls)))) .p)), [⟨((.s (.c 3 (nL tV))) :: (ru2 4 ((.s (.o .nil)) :: ((.s (.o (.int .i64))) :: (ru2 58 []))))), [], fun a H => (⟨⟩, ⟨0, (rL tV (slT a 0)), (toI (slT a 6)), []⟩)⟩, ⟨((.s (.c 3 (nL tV))) :: (ru2 4 ((.s (.c 4 (nL tP))) :: ((.s (.o (.int .i64))) :: (ru2 58 []))))), [], fun a H => (⟨⟩, ⟨1, (rL tV (slT a 0)), (toI (slT a 6)), (rL tP (slT a 5))⟩)⟩], la6, [(some 0, fun p s => ⟨((eL tV s.f0) :: (ra 4 ((.v (.slice none 0 0)) :: ((i s.is6) :: (ra 9 ((i s.is6) :: ((eL tV s.f0) :: ((i (↑(List.length s.f0) : Int)) :: ((b (decide (s.is6 < (↑(List.length s.f0) : Int)))) :: (ra 45 [])))))))))), []⟩), (some 0, fun p s => ⟨((eL tV s.f0) :: (ra 4 ((eL tP s.ea7) :: ((i s.is6) :: (ra 9 ((i s.is6) :: ((eL tV s.f0) :: ((i (↑(List.length s.f0) : Int)) :: ((b (decide (s.is6 < (↑(List.length s.f0) : Int)))) :: (ra 45 [])))))))))), []⟩)], yc8⟩
theorem yc9 : kb8.Ok := Lo.ok [kb7.pr] (by kernel_rfl) (.cons yc7 .nil) rfl (.cons (fun a H => by kernel_rfl) (.cons (fun a H => by kernel_rfl) .nil)) fun p s => (.sel (Nat.beq s.ph 1) (.of @E7 (fun F _ _ _ _ _ => by unfold E7; (repeat' apply n7 (f := F)) <;> rfl) (by kernel_rfl)) (.of @E6 (fun F _ _ _ _ _ => by unfold E6; (repeat' apply n7 (f := F)) <;> rfl) (by kernel_rfl)))
noncomputable def ua6 (x : List V3) : Option (b7 × List b8) := let t1 := (Qa4 (rt tV x)); let t2 := (lp (la6 (⟨⟩ : ca4)) (⟨0, (rt tV x), 0, []⟩ : v7)); (sl (okE tV x) (sl (Cb3 (rt tV x)) (sl (t1 != 0) (some ((.tup [(.v (.slice none 0 0)), (i t1)]), [])) (sl ((cnE tV x) && true) (sl (Nat.beq t2.1 1) (some ((.tup [(.v (.slice none 0 0)), (i 0)]), [])) (sl (Nat.beq t2.1 2) (some ((.tup [(eL tP t2.2.ea7), (i 0)]), [])) none)) none)) none) none)
noncomputable def Qa6 (x : List V3) : List Pln × Int := O4 (two (r1L tP) r1I) (ua6 x)
noncomputable def ua7 (x : List V3) : Bool := okO (two (r1L tP) r1I) (ua6 x)
noncomputable def ic2 : Sum := ia6 (ga9 tV) (fun x => .guard (ua7 x) (.ret ((two (r1L tP) r1I).enc (Qa6 x), [])))
theorem Vc3 : j7 prog G 112 ic2 := Ba4 (bd Ie9 Gc8) (two (r1L tP) r1I) (o := ua6) fun x => Ba5 (.s .p (.s .p (.s .p (.s .p (.s (.s .p (.b (.u kb8.ls))) .p))))) [kb8.pr] (by kernel_rfl) (.cons yc9 .nil) (by kernel_rfl)
noncomputable def Kb7 : List (Nat × Sum) := [(98, pa2), (124, Ob4)]
theorem zc0 : l5 prog G Kb7 := ⟨wa0, hc9, trivial⟩
structure X1 where
 is4 : Int
structure A1 where
 ph : Nat
 is6 : Int
 g8 : List Int
 c7 : Int
 ns5 : Nat
 eh1 : List (List b7)
noncomputable def dc6 (p : X1) (s : A1) : St := ⟨(ra 3 ((.ptr 0 0 0 0) :: ((i p.is4) :: ((.v (.slice none 0 0)) :: ((i s.is6) :: (ra 127 [])))))), [⟨0, 2, [[(eL tI s.g8), (i s.c7)]], true, false, 0⟩]⟩
noncomputable def dc7 (p : X1) (s : A1) : St := ⟨(ra 3 ((.ptr 0 0 0 0) :: ((i p.is4) :: ((.sl 1 0 s.ns5 0) :: ((i s.is6) :: (ra 127 [])))))), [⟨0, 2, [[(eL tI s.g8), (i s.c7)]], true, false, 0⟩, ⟨36, 3, s.eh1, true, false, 0⟩]⟩
noncomputable def lc9 (p : X1) (s : A1) : St := (sel (Nat.beq s.ph 1) (dc7 p s) (dc6 p s))
noncomputable def la7 {α : Type} (k : A1 → α) (e : Nat → α) (z : α) (p : X1) (s : A1) : α := let t1 := (l9 ⟨17, (rt tI s.g8), s.c7⟩); let t2 := (l9 ⟨17, (rt tI (rt tI s.g8)), t1.c7⟩); let t3 := (l9 ⟨17, (rt tI (rt tI (rt tI s.g8))), t2.c7⟩); let t4 := (l9 ⟨6, (rt tI (rt tI (rt tI (rt tI s.g8)))), t3.c7⟩); (sl (decide (s.is6 < p.is4)) (sl ((cnE tI s.g8) && true) (sl (Nat.beq t1.alt 1) (sl ((cnE tI (rt tI s.g8)) && true) (sl (Nat.beq t2.alt 1) (sl ((cnE tI (rt tI (rt tI s.g8))) && true) (sl (Nat.beq t3.alt 1) (sl ((cnE tI (rt tI (rt tI (rt tI s.g8)))) && true) (sl (Nat.beq t4.alt 1) (sl (t4.is0 == 1) (sl (decide (s.is6 > 1)) z (sl (t4.is0 == 2) (sl (decide (s.is6 > 0)) z (sl (t4.is0 == 3) (sl (decide (s.is6 > 2)) z (k ⟨1, (W (s.is6 + 1)), (rt tI (rt tI (rt tI (rt tI s.g8)))), t4.c7, 1, [[(i (W (t1.is0 - 8))), (i (W (t2.is0 - 8))), (i (W (t3.is0 - 8)))]]⟩)) (k ⟨1, (W (s.is6 + 1)), (rt tI (rt tI (rt tI (rt tI s.g8)))), t4.c7, 1, [[(i (W (t1.is0 - 8))), (i (W (t2.is0 - 8))), (i (W (t3.is0 - 8)))]]⟩))) (sl (t4.is0 == 3) (sl (decide (s.is6 > 2)) z (k ⟨1, (W (s.is6 + 1)), (rt tI (rt tI (rt tI (rt tI s.g8)))), t4.c7, 1, [[(i (W (t1.is0 - 8))), (i (W (t2.is0 - 8))), (i (W (t3.is0 - 8)))]]⟩)) (k ⟨1, (W (s.is6 + 1)), (rt tI (rt tI (rt tI (rt tI s.g8)))), t4.c7, 1, [[(i (W (t1.is0 - 8))), (i (W (t2.is0 - 8))), (i (W (t3.is0 - 8)))]]⟩)))) (sl (t4.is0 == 2) (sl (decide (s.is6 > 0)) z (sl (t4.is0 == 3) (sl (decide (s.is6 > 2)) z (k ⟨1, (W (s.is6 + 1)), (rt tI (rt tI (rt tI (rt tI s.g8)))), t4.c7, 1, [[(i (W (t1.is0 - 8))), (i (W (t2.is0 - 8))), (i (W (t3.is0 - 8)))]]⟩)) (k ⟨1, (W (s.is6 + 1)), (rt tI (rt tI (rt tI (rt tI s.g8)))), t4.c7, 1, [[(i (W (t1.is0 - 8))), (i (W (t2.is0 - 8))), (i (W (t3.is0 - 8)))]]⟩))) (sl (t4.is0 == 3) (sl (decide (s.is6 > 2)) z (k ⟨1, (W (s.is6 + 1)), (rt tI (rt tI (rt tI (rt tI s.g8)))), t4.c7, 1, [[(i (W (t1.is0 - 8))), (i (W (t2.is0 - 8))), (i (W (t3.is0 - 8)))]]⟩)) (k ⟨1, (W (s.is6 + 1)), (rt tI (rt tI (rt tI (rt tI s.g8)))), t4.c7, 1, [[(i (W (t1.is0 - 8))), (i (W (t2.is0 - 8))), (i (W (t3.is0 - 8)))]]⟩)))) z) z) z) z) z) z) z) z) (e 1))
noncomputable def I9 {α : Type} (k : A1 → α) (e : Nat → α) (z : α) (p : X1) (s : A1) : α := let t1 := (l9 ⟨17, (rt tI s.g8), s.c7⟩); let a0 := (m0 s.eh1 (0 + (W (s.is6 - 1)).toNat)); let a1 := (Nat.beq s.ns5 (len s.eh1) && Nat.ble ((s.ns5 + 1) * 24) room); let a3 := (g9 (m0 s.eh1 (0 + (W (s.is6 - 2)).toNat)) 0); let a4 := ((Nat.blt (0 + (W (s.is6 - 1)).toNat) (len s.eh1)) && (Nat.ble (2 + 1) (len a0))); let a5 := (i (W (Int.tdiv (W ((toI (hdA (tlA (g9 a0 0)))) + (toI (hdA (tlA a3))))) 2))); let a6 := (i (W (Int.tdiv (W ((toI (hdA (g9 a0 0))) + (toI (hdA a3)))) 2))); let a7 := (app s.eh1 [[a6, a5, (i (W (Int.tdiv (W ((toI (hdA (tlA (tlA (g9 a0 0))))) + (toI (hdA (tlA (tlA a3)))))) 2)))]]); let a8 := (inB (W (s.is6 - 1)) s.ns5); let a9 := (i (toI (hdA (tlA (g9 a0 0))))); let a10 := ((Nat.blt (0 + (W (s.is6 - 1)).toNat) (len s.eh1)) && (Nat.ble (0 + 3) (len a0))); let a11 := (i (toI (hdA (g9 a0 0)))); let a12 := (app s.eh1 [[a11, a9, (i (toI (hdA (tlA (tlA (g9 a0 0))))))]]); let a13 := (i (toI (hdA (g9 a0 2)))); let a14 := (rt tI (rt tI s.g8)); let t2 := (l9 ⟨17, a14, t1.c7⟩); let t3 := (l9 ⟨17, (rt tI a14), t2.c7⟩); let a2 := (rt tI (rt tI a14)); let t4 := (l9 ⟨6, a2, t3.c7⟩); (sl (decide (s.is6 < p.is4)) (sl ((cnE tI s.g8) && true) (sl (Nat.beq t1.alt 1) (sl ((cnE tI (rt tI s.g8)) && true) (sl (Nat.beq t2.alt 1) (sl ((cnE tI a14) && true) (sl (Nat.beq t3.alt 1) (sl ((cnE tI (rt tI a14)) && true) (sl (Nat.beq t4.alt 1) (sl (t4.is0 == 1) (sl (decide (s.is6 > 1)) (sl a8 (sl (a10 && (Q6 [(CK.int .i64), (CK.int .i64), (CK.int .i64)] (g9 a0 0))) (sl (inB (W (s.is6 - 2)) s.ns5) (sl (((Nat.blt (0 + (W (s.is6 - 2)).toNat) (len s.eh1)) && (Nat.ble (0 + 3) (len (m0 s.eh1 (0 + (W (s.is6 - 2)).toNat))))) && (Q6 [(CK.int .i64), (CK.int .i64), (CK.int .i64)] a3)) (sl (t4.is0 == 2) (sl (decide (s.is6 > 0)) (sl a8 (sl (a10 && (Q6 [(CK.int .i64), (CK.int .i64), (CK.int .i64)] (g9 a0 0))) (sl (t4.is0 == 3) (sl (decide (s.is6 > 2)) (sl a8 (sl (a4 && (Q6 [(CK.int .i64)] (g9 a0 2))) (sl a1 (k ⟨1, (W (s.is6 + 1)), a2, t4.c7, (s.ns5 + 1), (app s.eh1 [[a11, a9, a13]])⟩) z) z) z) (sl a1 (k ⟨1, (W (s.is6 + 1)), a2, t4.c7, (s.ns5 + 1), a12⟩) z)) (sl a1 (k ⟨1, (W (s.is6 + 1)), a2, t4.c7, (s.ns5 + 1), a12⟩) z)) z) z) (sl (t4.is0 == 3) (sl (decide (s.is6 > 2)) (sl a8 (sl (a4 && (Q6 [(CK.int .i64)] (g9 a0 2))) (sl a1 (k ⟨1, (W (s.is6 + 1)), a2, t4.c7, (s.ns5 + 1), (app s.eh1 [[a6, a5, a13]])⟩) z) z) z) (sl a1 (k ⟨1, (W (s.is6 + 1)), a2, t4.c7, (s.ns5 + 1), a7⟩) z)) (sl a1 (k ⟨1, (W (s.is6 + 1)), a2, t4.c7, (s.ns5 + 1), a7⟩) z))) (sl (t4.is0 == 3) (sl (decide (s.is6 > 2)) (sl a8 (sl (a4 && (Q6 [(CK.int .i64)] (g9 a0 2))) (sl a1 (k ⟨1, (W (s.is6 + 1)), a2, t4.c7, (s.ns5 + 1), (app s.eh1 [[a6, a5, a13]])⟩) z) z) z) (sl a1 (k ⟨1, (W (s.is6 + 1)), a2, t4.c7, (s.ns5 + 1), a7⟩) z)) (sl a1 (k ⟨1, (W (s.is6 + 1)), a2, t4.c7, (s.ns5 + 1), a7⟩) z))) z) z) z) z) (sl (t4.is0 == 2) (sl (decide (s.is6 > 0)) (sl a8 (sl (a10 && (Q6 [(CK.int .i64), (CK.int .i64), (CK.int .i64)] (g9 a0 0))) (sl (t4.is0 == 3) (sl (decide (s.is6 > 2)) (sl a8 (sl (a4 && (Q6 [(CK.int .i64)] (g9 a0 2))) (sl a1 (k ⟨1, (W (s.is6 + 1)), a2, t4.c7, (s.ns5 + 1), (app s.eh1 [[a11, a9, a13]])⟩) z) z) z) (sl a1 (k ⟨1, (W (s.is6 + 1)), a2, t4.c7, (s.ns5 + 1), a12⟩) z)) (sl a1 (k ⟨1, (W (s.is6 + 1)), a2, t4.c7, (s.ns5 + 1), a12⟩) z)) z) z) (sl (t4.is0 == 3) (sl (decide (s.is6 > 2)) (sl a8 (sl (a4 && (Q6 [(CK.int .i64)] (g9 a0 2))) (sl a1 (k ⟨1, (W (s.is6 + 1)), a2, t4.c7, (s.ns5 + 1), (app s.eh1 [[(i (W (t1.is0 - 8))), (i (W (t2.is0 - 8))), a13]])⟩) z) z) z) (sl a1 (k ⟨1, (W (s.is6 + 1)), a2, t4.c7, (s.ns5 + 1), (app s.eh1 [[(i (W (t1.is0 - 8))), (i (W (t2.is0 - 8))), (i (W (t3.is0 - 8)))]])⟩) z)) (sl a1 (k ⟨1, (W (s.is6 + 1)), a2, t4.c7, (s.ns5 + 1), (app s.eh1 [[(i (W (t1.is0 - 8))), (i (W (t2.is0 - 8))), (i (W (t3.is0 - 8)))]])⟩) z))) (sl (t4.is0 == 3) (sl (decide (s.is6 > 2)) (sl a8 (sl (a4 && (Q6 [(CK.int .i64)] (g9 a0 2))) (sl a1 (k ⟨1, (W (s.is6 + 1)), a2, t4.c7, (s.ns5 + 1), (app s.eh1 [[(i (W (t1.is0 - 8))), (i (W (t2.is0 - 8))), a13]])⟩) z) z) z) (sl a1 (k ⟨1, (W (s.is6 + 1)), a2, t4.c7, (s.ns5 + 1), (app s.eh1 [[(i (W (t1.is0 - 8))), (i (W (t2.is0 - 8))), (i (W (t3.is0 - 8)))]])⟩) z)) (sl a1 (k ⟨1, (W (s.is6 + 1)), a2, t4.c7, (s.ns5 + 1), (app s.eh1 [[(i (W (t1.is0 - 8))), (i (W (t2.is0 - 8))), (i (W (t3.is0 - 8)))]])⟩) z)))) (sl (t4.is0 == 2) (sl (decide (s.is6 > 0)) (sl a8 (sl (a10 && (Q6 [(CK.int .i64), (CK.int .i64), (CK.int .i64)] (g9 a0 0))) (sl (t4.is0 == 3) (sl (decide (s.is6 > 2)) (sl a8 (sl (a4 && (Q6 [(CK.int .i64)] (g9 a0 2))) (sl a1 (k ⟨1, (W (s.is6 + 1)), a2, t4.c7, (s.ns5 + 1), (app s.eh1 [[a11, a9, a13]])⟩) z) z) z) (sl a1 (k ⟨1, (W (s.is6 + 1)), a2, t4.c7, (s.ns5 + 1), a12⟩) z)) (sl a1 (k ⟨1, (W (s.is6 + 1)), a2, t4.c7, (s.ns5 + 1), a12⟩) z)) z) z) (sl (t4.is0 == 3) (sl (decide (s.is6 > 2)) (sl a8 (sl (a4 && (Q6 [(CK.int .i64)] (g9 a0 2))) (sl a1 (k ⟨1, (W (s.is6 + 1)), a2, t4.c7, (s.ns5 + 1), (app s.eh1 [[(i (W (t1.is0 - 8))), (i (W (t2.is0 - 8))), a13]])⟩) z) z) z) (sl a1 (k ⟨1, (W (s.is6 + 1)), a2, t4.c7, (s.ns5 + 1), (app s.eh1 [[(i (W (t1.is0 - 8))), (i (W (t2.is0 - 8))), (i (W (t3.is0 - 8)))]])⟩) z)) (sl a1 (k ⟨1, (W (s.is6 + 1)), a2, t4.c7, (s.ns5 + 1), (app s.eh1 [[(i (W (t1.is0 - 8))), (i (W (t2.is0 - 8))), (i (W (t3.is0 - 8)))]])⟩) z))) (sl (t4.is0 == 3) (sl (decide (s.is6 > 2)) (sl a8 (sl (a4 && (Q6 [(CK.int .i64)] (g9 a0 2))) (sl a1 (k ⟨1, (W (s.is6 + 1)), a2, t4.c7, (s.ns5 + 1), (app s.eh1 [[(i (W (t1.is0 - 8))), (i (W (t2.is0 - 8))), a13]])⟩) z) z) z) (sl a1 (k ⟨1, (W (s.is6 + 1)), a2, t4.c7, (s.ns5 + 1), (app s.eh1 [[(i (W (t1.is0 - 8))), (i (W (t2.is0 - 8))), (i (W (t3.is0 - 8)))]])⟩) z)) (sl a1 (k ⟨1, (W (s.is6 + 1)), a2, t4.c7, (s.ns5 + 1), (app s.eh1 [[(i (W (t1.is0 - 8))), (i (W (t2.is0 - 8))), (i (W (t3.is0 - 8)))]])⟩) z)))) z) z) z) z) z) z) z) z) (e 2))
noncomputable def Aa3 (p : X1) (s : A1) : Stp A1 := (sel (Nat.beq s.ph 1) (I9 .next .exit .fail p s) (la7 .next .exit .fail p s))
noncomputable def bb6 : Lo X1 A1 := ⟨En Kb7, 0, xe7, [1, 1, 1, 1, 0, 1, 4, 4], [3, 4, 5, 6], .p, [⟨(ru2 3 ((.s (.o (.ptr 0 0 0 0))) :: ((.s (.o (.int .i64))) :: ((.s (.o .nil)) :: ((.s (.o (.int .i64))) :: (ru2 127 [])))))), [⟨0, 2, true, (some [[(.c 1 (nL tI)), (.o (.int .i64))]])⟩], fun a H => (⟨(toI (slT a 4))⟩, ⟨0, (toI (slT a 6)), (rL tI (slT (rwT (elT H 0) 0) 0)), (toI (slT (rwT (elT H 0) 0) 1)), 0, []⟩)⟩, ⟨(ru2 3 ((.s (.o (.ptr 0 0 0 0))) :: ((.s (.o (.int .i64))) :: ((.s (.o (.sl 1 0 (some 0) none))) :: ((.s (.o (.int .i64))) :: (ru2 127 [])))))), [⟨0, 2, true, (some [[(.c 1 (nL tI)), (.o (.int .i64))]])⟩, ⟨36, 3, true, none⟩], fun a H => (⟨(toI (slT a 4))⟩, ⟨1, (toI (slT a 6)), (rL tI (slT (rwT (elT H 0) 0) 0)), (toI (slT (rwT (elT H 0) 0) 1)), (slN (slT a 5)), (elT H 1)⟩)⟩], Aa3, [(some 0, fun p s => ⟨(ra 3 ((.ptr 0 0 0 0) :: ((i p.is4) :: ((.v (.slice none 0 0)) :: ((i s.is6) :: (ra 11 ((i s.is6) :: ((i p.is4) :: ((b (decide (s.is6 < p.is4))) :: (ra 113 [])))))))))), [⟨0, 2, [[(eL tI s.g8), (i s.c7)]], true, false, 0⟩]⟩), (some 0, fun p s => ⟨(ra 3 ((.ptr 0 0 0 0) :: ((i p.is4) :: ((.sl 1 0 s.ns5 0) :: ((i s.is6) :: (ra 11 ((i s.is6) :: ((i p.is4) :: ((b (decide (s.is6 < p.is4))) :: (ra 113 [])))))))))), [⟨0, 2, [[(eL tI s.g8), (i s.c7)]], true, false, 0⟩, ⟨36, 3, s.eh1, true, false, 0⟩]⟩)], lc9⟩
theorem mc0 : bb6.Ok := Lo.ok [] (by kernel_rfl) .nil rfl (.cons (fun a H => by kernel_rfl) (.cons (fun a H => by kernel_rfl) .nil)) fun p s => (.sel (Nat.beq s.ph 1) (.of @I9 (fun F _ _ _ _ _ => by unfold I9; (repeat' apply n7 (f := F)) <;> rfl) (by kernel_rfl)) (.of @la7 (fun F _ _ _ _ _ => by unfold la7; (repeat' apply n7 (f := F)) <;> rfl) (by kernel_rfl)))
noncomputable def Ha6 (x : List Int) : Option (b7 × List b8) := let t1 := (l9 ⟨5, (rt tI x), 0⟩); let t2 := (lp (Aa3 (⟨(W (4 + t1.is0))⟩ : X1)) (⟨0, 0, (rt tI (rt tI x)), t1.c7, 0, []⟩ : A1)); let t3 := (Ca3 []); let t4 := (Ca3 (lsL tV t2.2.ns5 (fun k => m0 t2.2.eh1 (0 + k)))); let a0 := (g9 (m0 t2.2.eh1 0) 0); let a1 := (i (toI (hdA (tlA (tlA a0))))); let a2 := (i (W ((toI (hdA a0)) - 3))); let a3 := (setAt t2.2.eh1 1 (T6 (m0 t2.2.eh1 1) 0 [a2, (i (toI (hdA (tlA a0)))), a1])); let a4 := (i (W ((toI (hdA (tlA a0))) - 2))); (sl ((cnE tI x) && true) (sl (Nat.beq t1.alt 1) (sl ((cnE tI (rt tI x)) && true) (sl (Nat.beq t2.1 1) (sl (La7 []) (sl t3 none (some ((.v (.slice none 0 0)), []))) none) (sl (Nat.beq t2.1 2) (sl (okL tV t2.2.ns5 (fun k => m0 t2.2.eh1 (0 + k))) (sl (La7 (lsL tV t2.2.ns5 (fun k => m0 t2.2.eh1 (0 + k)))) (sl t4 (sl (inB 0 t2.2.ns5) (sl (((Nat.blt 0 (len t2.2.eh1)) && (Nat.ble (0 + 3) (len (m0 t2.2.eh1 0)))) && (Q6 [(CK.int .i64), (CK.int .i64), (CK.int .i64)] a0)) (sl (inB 1 t2.2.ns5) (sl ((Nat.blt 1 (len t2.2.eh1)) && (Nat.ble (0 + 3) (len (m0 t2.2.eh1 1)))) (sl (inB 2 t2.2.ns5) (sl ((Nat.blt 2 (len a3)) && (Nat.ble (0 + 3) (len (m0 a3 2)))) (sl (inB 3 t2.2.ns5) (sl ((Nat.blt 3 (len (setAt a3 2 (T6 (m0 a3 2) 0 [(i (toI (hdA a0))), a4, a1])))) && (Nat.ble (0 + 3) (len (m0 (setAt a3 2 (T6 (m0 a3 2) 0 [(i (toI (hdA a0))), a4, a1])) 3)))) (some ((.sl 0 0 t2.2.ns5 0), [⟨36, 3, (setAt (setAt a3 2 (T6 (m0 a3 2) 0 [(i (toI (hdA a0))), a4, a1])) 3 (T6 (m0 (setAt a3 2 (T6 (m0 a3 2) 0 [(i (toI (hdA a0))), a4, a1])) 3) 0 [(i (toI (hdA a0))), (i (toI (hdA (tlA a0)))), (i (W ((toI (hdA (tlA (tlA a0)))) - 1)))])), true, false, 0⟩])) none) none) none) none) none) none) none) none) (some ((.sl 0 0 t2.2.ns5 0), [⟨36, 3, t2.2.eh1, true, false, 0⟩]))) none) none) none)) none) none) none)
noncomputable def L7 (x : List Int) : List V3 := O4 (one (r1L tV)) (Ha6 x)
noncomputable def Ha7 (x : List Int) : Bool := okO (one (r1L tV)) (Ha6 x)
noncomputable def Wb0 : Sum := ia6 (ga9 tI) (fun x => .guard (Ha7 x) (.ret ((one (r1L tV)).enc (L7 x), [])))
theorem Gc9 : j7 prog G 46 Wb0 := Ba4 (bd b46 zc0) (one (r1L tV)) (o := Ha6) fun x => Ba5 (.s .p (.s .p (.s .p (.s .p (.s (.s .p (.b (.u bb6.ls))) .p))))) [bb6.pr] (by kernel_rfl) (.cons mc0 .nil) (by kernel_rfl)
end Go.Ev.Ce
end
section
namespace Go.Ev.Ce
open Go Go.Ev Go.Ev.L Go.Proofs
set_option maxRecDepth 100000
noncomputable def id6 : List (Nat × Sum) := [(98, pa2), (97, dc1), (111, bc6), (35, Ob2), (21, uc7), (46, Wb0), (112, ic2)]
theorem Vc4 : l5 prog G id6 := ⟨wa0, xc4, uc5, hc7, fd6, Gc9, Vc3, trivial⟩
noncomputable def Ca4 (x : List Int) : Option (b7 × List b8) := let t1 := (l9 ⟨4, (rt tI x), 0⟩); let t2 := (La4 ⟨6, (rt tI (rt tI x)), t1.c7⟩); let t3 := (l9 ⟨6, (rt tI t2.g8), t2.c7⟩); let t4 := (l9 ⟨6, (rt tI (rt tI t2.g8)), t3.c7⟩); let t5 := (l9 ⟨6, (rt tI (rt tI (rt tI t2.g8))), t4.c7⟩); let t6 := (mb5 (⟨t2.ma5, t2.ma6, t2.ma7⟩ : V3) (⟨(W ((W (t2.ma5 + 1)) + t3.is0)), (W ((W (t2.ma6 + 1)) + t4.is0)), (W ((W (t2.ma7 + 1)) + t5.is0))⟩ : V3)); let a0 := (if 7 < (↑(List.length x) : Int) then 7 else (↑(List.length x) : Int)); let a1 := (o7 (fun k => (tP).row (gL tP t6 k)) (List.range (List.length t6))); let a2 := (fun k => (fun k => (tI).row (gL tI x k)) (a0.toNat + k)); let a3 := ((List.length x) - a0.toNat); let t7 := (Ca0 (lsL tI a3 a2)); let t8 := (Ka2 [t7]); let t9 := (L7 (lsL tI a3 a2)); let t10 := (Qa6 (rt tV t9)); let t11 := (Ka2 (slR tP (app (app [] a1) [[(i t7.n.x), (i t7.n.y), (i t7.n.z), (i t7.b)]]) 0 ((0 + (len a1)) + 1))); (sl ((cnE tI x) && true) (sl (Nat.beq t1.alt 1) (sl ((cnE tI (rt tI x)) && true) (sl (Nat.beq t2.alt 1) (sl ((cnE tI t2.g8) && true) (sl (Nat.beq t3.alt 1) (sl ((cnE tI (rt tI t2.g8)) && true) (sl (Nat.beq t4.alt 1) (sl ((cnE tI (rt tI (rt tI t2.g8))) && true) (sl (Nat.beq t5.alt 1) (sl (Xa7 (⟨t2.ma5, t2.ma6, t2.ma7⟩ : V3) (⟨(W ((W (t2.ma5 + 1)) + t3.is0)), (W ((W (t2.ma6 + 1)) + t4.is0)), (W ((W (t2.ma7 + 1)) + t5.is0))⟩ : V3)) (sl (inB a0 ((List.length x) + 1)) (sl (t1.is0 == 2) (sl (Nat.beq (len a1) 0) (sl (okL tI a3 a2) (sl (bb5 (lsL tI a3 a2)) (sl (Ba7 [t7]) (sl t8 (some ((.sl 0 0 1 0), [⟨50, 4, [[(i t7.n.x), (i t7.n.y), (i t7.n.z), (i t7.b)]], true, false, 0⟩])) (sl (t1.is0 == 3) (sl (okL tI a3 a2) (sl (Ha7 (lsL tI a3 a2)) (sl (okE tV t9) (sl (ua7 (rt tV t9)) (sl (t10.2 == 0) (some ((eL tP t10.1), [])) (some ((eL tP t6), []))) none) none) none) none) (some ((eL tP t6), [])))) none) none) none) (sl (Nat.beq 0 0 && Nat.ble ((0 + (len a1)) * 32) room) (sl (okL tI a3 a2) (sl (bb5 (lsL tI a3 a2)) (sl (Nat.beq (0 + (len a1)) (len (app [] a1)) && Nat.ble (((0 + (len a1)) + 1) * 32) room) (sl (okS tP (app (app [] a1) [[(i t7.n.x), (i t7.n.y), (i t7.n.z), (i t7.b)]]) 0 ((0 + (len a1)) + 1)) (sl (Ba7 (slR tP (app (app [] a1) [[(i t7.n.x), (i t7.n.y), (i t7.n.z), (i t7.b)]]) 0 ((0 + (len a1)) + 1))) (sl t11 (some ((.sl 0 0 ((0 + (len a1)) + 1) 0), [⟨50, 4, (app (app [] a1) [[(i t7.n.x), (i t7.n.y), (i t7.n.z), (i t7.b)]]), true, false, 0⟩])) (sl (t1.is0 == 3) (sl (okL tI a3 a2) (sl (Ha7 (lsL tI a3 a2)) (sl (okE tV t9) (sl (ua7 (rt tV t9)) (sl (t10.2 == 0) (some ((eL tP t10.1), [])) (some ((eL tP t6), []))) none) none) none) none) (some ((eL tP t6), [])))) none) none) none) none) none) none)) (sl (t1.is0 == 3) (sl (okL tI a3 a2) (sl (Ha7 (lsL tI a3 a2)) (sl (okE tV t9) (sl (ua7 (rt tV t9)) (sl (t10.2 == 0) (some ((eL tP t10.1), [])) (some ((eL tP t6), []))) none) none) none) none) (some ((eL tP t6), [])))) none) none) none) none) none) none) none) none) none) none) none) none)
noncomputable def bb7 (x : List Int) : List Pln := O4 (one (r1L tP)) (Ca4 x)
noncomputable def Ob5 (x : List Int) : Bool := okO (one (r1L tP)) (Ca4 x)
noncomputable def zc1 : Sum := ia6 (ga9 tI) (fun x => .guard (Ob5 x) (.ret ((one (r1L tP)).enc (bb7 x), [])))
theorem id7 : j7 prog G 30 zc1 := Ba4 (bd b30 Vc4) (one (r1L tP)) (o := Ca4) fun x => s9 (by kernel_rfl)
noncomputable def hb7 : List (Nat × Sum) := []
theorem Ob6 : l5 prog G hb7 := trivial
structure ea2 where
 A8 : List Pt
 Bc8 : List Pt
structure D5 where
 is5 : Int
noncomputable def Ib3 (p : ea2) (s : D5) : St := ⟨((eL tX p.A8) :: ((eL tX p.Bc8) :: (ra 3 ((i s.is5) :: (ra 20 []))))), []⟩
noncomputable def X2 {α : Type} (k : D5 → α) (e : Nat → α) (z : α) (p : ea2) (s : D5) : α := (sl (decide (s.is5 < (↑(List.length p.A8) : Int))) (sl (inB s.is5 (List.length p.A8)) (sl (inB s.is5 (List.length p.Bc8)) (sl (!(((gL tX p.A8 s.is5.toNat).px == (gL tX p.Bc8 s.is5.toNat).px) && (((gL tX p.A8 s.is5.toNat).py == (gL tX p.Bc8 s.is5.toNat).py) && (((gL tX p.A8 s.is5.toNat).pz == (gL tX p.Bc8 s.is5.toNat).pz) && (((gL tX p.A8 s.is5.toNat).pw == (gL tX p.Bc8 s.is5.toNat).pw) && true))))) (e 1) (k ⟨(W (s.is5 + 1))⟩)) z) z) (e 2))
noncomputable def Z2 (p : ea2) (s : D5) : Stp D5 := X2 .next .exit .fail p s
noncomputable def Ca5 : Lo ea2 D5 := ⟨En hb7, 0, xe4, [1, 1, 0, 1, 4, 4], [0, 1, 5], .p, [⟨((.s (.c 4 (nL tX))) :: ((.s (.c 4 (nL tX))) :: (ru2 3 ((.s (.o (.int .i64))) :: (ru2 20 []))))), [], fun a H => (⟨(rL tX (slT a 0)), (rL tX (slT a 1))⟩, ⟨(toI (slT a 5))⟩)⟩], Z2, [(none, fun p s => ⟨[(b false)], []⟩), (some 0, fun p s => ⟨((eL tX p.A8) :: ((eL tX p.Bc8) :: (ra 3 ((i s.is5) :: (ra 5 ((i s.is5) :: ((eL tX p.A8) :: ((i (↑(List.length p.A8) : Int)) :: ((b (decide (s.is5 < (↑(List.length p.A8) : Int)))) :: (ra 11 [])))))))))), []⟩)], Ib3⟩
theorem Ib4 : Ca5.Ok := Lo.ok [] (by kernel_rfl) .nil rfl (.cons (fun a H => by kernel_rfl) .nil) fun p s => (.of @X2 (fun F _ _ _ _ _ => by unfold X2; (repeat' apply n7 (f := F)) <;> rfl) (by kernel_rfl))
noncomputable def la8 (x : List Pt) (y : List Pt) : Option (b7 × List b8) := let t1 := (lp (Z2 (⟨(rt tX x), (rt tX y)⟩ : ea2)) (⟨0⟩ : D5)); (sl ((↑(List.length x) : Int) != (↑(List.length y) : Int)) (some ((b false), [])) (sl ((cnE tX x) && ((cnE tX y) && true)) (sl (Nat.beq t1.1 1) (some ((b false), [])) (sl (Nat.beq t1.1 2) (some ((b true), [])) none)) none))
noncomputable def la9 (x : List Pt) (y : List Pt) : Bool := O4 (one r1B) (la8 x y)
noncomputable def ma0 (x : List Pt) (y : List Pt) : Bool := okO (one r1B) (la8 x y)
noncomputable def nb8 : Sum := ja9 (ga9 tX) (ga9 tX) (fun x y => .guard (ma0 x y) (.ret ((one r1B).enc (la9 x y), [])))
theorem Wb1 : j7 prog G 17 nb8 := lb8 (bd b17 Ob6) (one r1B) (o := la8) fun x y => Ba5 (.s .p (.s .p (.s (.s .p (.b (.u Ca5.ls))) .p))) [Ca5.pr] (by kernel_rfl) (.cons Ib4 .nil) (by kernel_rfl)
noncomputable def ic3 : List (Nat × Sum) := []
theorem Vc5 : l5 prog G ic3 := trivial
structure Ha8 where
 c9 : List Pln
 ic7 : List Pln
structure ba0 where
 is5 : Int
noncomputable def Hc0 (p : Ha8) (s : ba0) : St := ⟨((eL tP p.c9) :: ((eL tP p.ic7) :: (ra 3 ((i s.is5) :: (ra 20 []))))), []⟩
noncomputable def ua8 {α : Type} (k : ba0 → α) (e : Nat → α) (z : α) (p : Ha8) (s : ba0) : α := (sl (decide (s.is5 < (↑(List.length p.c9) : Int))) (sl (inB s.is5 (List.length p.c9)) (sl (inB s.is5 (List.length p.ic7)) (sl (!(((gL tP p.c9 s.is5.toNat).n.x == (gL tP p.ic7 s.is5.toNat).n.x) && (((gL tP p.c9 s.is5.toNat).n.y == (gL tP p.ic7 s.is5.toNat).n.y) && (((gL tP p.c9 s.is5.toNat).n.z == (gL tP p.ic7 s.is5.toNat).n.z) && (((gL tP p.c9 s.is5.toNat).b == (gL tP p.ic7 s.is5.toNat).b) && true))))) (e 1) (k ⟨(W (s.is5 + 1))⟩)) z) z) (e 2))
noncomputable def za1 (p : Ha8) (s : ba0) : Stp ba0 := ua8 .next .exit .fail p s
noncomputable def sb8 : Lo Ha8 ba0 := ⟨En ic3, 0, xe6, [1, 1, 0, 1, 4, 4], [0, 1, 5], .p, [⟨((.s (.c 4 (nL tP))) :: ((.s (.c 4 (nL tP))) :: (ru2 3 ((.s (.o (.int .i64))) :: (ru2 20 []))))), [], fun a H => (⟨(rL tP (slT a 0)), (rL tP (slT a 1))⟩, ⟨(toI (slT a 5))⟩)⟩], za1, [(none, fun p s => ⟨[(b false)], []⟩), (some 0, fun p s => ⟨((eL tP p.c9) :: ((eL tP p.ic7) :: (ra 3 ((i s.is5) :: (ra 5 ((i s.is5) :: ((eL tP p.c9) :: ((i (↑(List.length p.c9) : Int)) :: ((b (decide (s.is5 < (↑(List.length p.c9) : Int)))) :: (ra 11 [])))))))))), []⟩)], Hc0⟩
theorem Hc1 : sb8.Ok := Lo.ok [] (by kernel_rfl) .nil rfl (.cons (fun a H => by kernel_rfl) .nil) fun p s => (.of @ua8 (fun F _ _ _ _ _ => by unfold ua8; (repeat' apply n7 (f := F)) <;> rfl) (by kernel_rfl))
noncomputable def bb8 (x : List Pln) (y : List Pln) : Option (b7 × List b8) := let t1 := (lp (za1 (⟨(rt tP x), (rt tP y)⟩ : Ha8)) (⟨0⟩ : ba0)); (sl ((↑(List.length x) : Int) != (↑(List.length y) : Int)) (some ((b false), [])) (sl ((cnE tP x) && ((cnE tP y) && true)) (sl (Nat.beq t1.1 1) (some ((b false), [])) (sl (Nat.beq t1.1 2) (some ((b true), [])) none)) none))
noncomputable def sb9 (x : List Pln) (y : List Pln) : Bool := O4 (one r1B) (bb8 x y)
noncomputable def tb0 (x : List Pln) (y : List Pln) : Bool := okO (one r1B) (bb8 x y)
noncomputable def zc2 : Sum := ja9 (ga9 tP) (ga9 tP) (fun x y => .guard (tb0 x y) (.ret ((one r1B).enc (sb9 x y), [])))
theorem id8 : j7 prog G 26 zc2 := lb8 (bd b26 Vc5) (one r1B) (o := bb8) fun x y => Ba5 (.s .p (.s .p (.s (.s .p (.b (.u sb8.ls))) .p))) [sb8.pr] (by kernel_rfl) (.cons Hc1 .nil) (by kernel_rfl)
structure le1 where
 is6 : Int
structure le2 where
 ns5 : Nat
 eh0 : List (List b7)
end Go.Ev.Ce
end
namespace Go.Ev.Ce
open Go Go.Ev Go.Ev.L Go.Proofs
theorem id9 {Q : Pt → Prop} (r : List Pln) (p q : Pln) : ∀ (l : List Pln) (out : List Pt), (∀ s ∈ l, (mpt p q s).2 = true → inn r (mpt p q s).1 = true → Q (mpt p q s).1) → (∀ x ∈ out, Q x) → ∀ x ∈ bb2 r p q l out, Q x
 | [], out, _, h => h
 | s :: l, out, hs, h => id9 r p q l (ua3 r p q out s) (fun t ht => hs t (List.mem_cons_of_mem _ ht)) fun x hx => by
  unfold ua3 at hx
  split at hx
  ·rename_i hc
   rw [Bool.and_eq_true, Bool.and_eq_true] at hc
   rcases List.mem_append.1 hx with hx | hx
   ·exact h x hx
   ·rw [List.mem_singleton] at hx
    subst hx
    exact hs s List.mem_cons_self hc.1 hc.2.2
  ·exact h x hx
theorem jd0 {Q : Pt → Prop} (r : List Pln) (p : Pln) : ∀ (l : List Pln) (out : List Pt), (∀ q ∈ l, ∀ s ∈ l, (mpt p q s).2 = true → inn r (mpt p q s).1 = true → Q (mpt p q s).1) → (∀ x ∈ out, Q x) → ∀ x ∈ bb3 r p l out, Q x
 | [], out, _, h => h
 | q :: l, out, hs, h => jd0 r p l _ (fun a ha t ht => hs a (List.mem_cons_of_mem _ ha) t (List.mem_cons_of_mem _ ht)) (id9 r p q l out (fun t ht => hs q List.mem_cons_self t (List.mem_cons_of_mem _ ht)) h)
theorem jd1 {Q : Pt → Prop} (r : List Pln) : ∀ (l : List Pln) (out : List Pt), (∀ p ∈ l, ∀ q ∈ l, ∀ s ∈ l, (mpt p q s).2 = true → inn r (mpt p q s).1 = true → Q (mpt p q s).1) → (∀ x ∈ out, Q x) → ∀ x ∈ Fc6 r l out, Q x
 | [], out, _, h => h
 | p :: l, out, hs, h => jd1 r l _ (fun a ha c hc t ht => hs a (List.mem_cons_of_mem _ ha) c (List.mem_cons_of_mem _ hc) t (List.mem_cons_of_mem _ ht)) (jd0 r p l out (fun c hc t ht => hs p List.mem_cons_self c (List.mem_cons_of_mem _ hc) t (List.mem_cons_of_mem _ ht)) h)
theorem yd9 {Q : Pt → Prop} {r : List Pln} (hs : ∀ p ∈ r, ∀ q ∈ r, ∀ s ∈ r, (mpt p q s).2 = true → inn r (mpt p q s).1 = true → Q (mpt p q s).1) : ∀ x ∈ cor r, Q x :=
 jd1 r r [] hs fun x hx => by cases hx
structure Okx (x : Pt) : Prop where
 w1 : 0 < x.pw
 w2 : x.pw ≤ 600000000000
 c1 : Sm 300000000000000 x.px
 c2 : Sm 300000000000000 x.py
 c3 : Sm 300000000000000 x.pz
theorem hb8 {r : List Pln} (hb : Bds r) : ∀ x ∈ cor r, Okx x := yd9 fun p hp q hq s hs h _ => by
 obtain ⟨h1, h2, h3, h4, h5⟩ := sd4 (hb p hp) (hb q hq) (hb s hs) h
 exact ⟨h1, h5, h2, h3, h4⟩
theorem de9 {c : List Pln} : ∀ x ∈ pts c, Okx x := by
 unfold pts
 cases h : chk c == 0 with
 | false => intro x hx; cases hx
 | true => exact hb8 (Na0 h).1
theorem nc9 (c : List Pln) : (pts c).length ≤ 8000000 := by
 unfold pts
 cases h : chk c == 0 with
 | false => exact Nat.zero_le _
 | true => exact Uc1 _ (Na0 h).1 (Na0 h).2
theorem jd2 {x y : Int} (hy : 0 < y) : Int.tmod x y + y * Int.tdiv x y = x ∧ -y < Int.tmod x y ∧ Int.tmod x y < y := by
 refine ⟨Int.tmod_add_mul_tdiv x y, ?_, Int.tmod_lt_of_pos x hy⟩
 have := Int.lt_tmod_of_pos x hy
 omega
theorem zd0 {x y q r : Int} (hy : 0 < y) (h : r + y * q = x) (h1 : 0 ≤ r) (h2 : r < y) : x / y = q := ((Int.ediv_emod_unique hy).2 ⟨h, h1, h2⟩).1
theorem ee0 {x y : Int} (hx : Sm 300000000000000 x) (hy : 0 < y) : Sm 300000000000000 (Int.tdiv x y) := D4 hx hy
theorem jd3 {x y : Int} (hx : Sm 300000000000000 x) (hy : 0 < y) : Ha0 x y = some (i (x / y), []) := by
 have hz : (y == 0) = false := by rw [beq_eq_false_iff_ne]; omega
 obtain ⟨h1, h2, h3⟩ := jd2 (x := x) hy
 have hb := ee0 hx hy
 unfold Ha0
 rw [bf hz, bf hz, ra8 (hb.mono (by omega))]
 by_cases h : Int.tmod x y < 0
 ·rw [btD h, zd0 hy (q := Int.tdiv x y - 1) (r := Int.tmod x y + y) (by rw [Int.mul_sub]; omega) (by omega) (by omega), Y0 (by have := hb.1; omega) (by have := hb.2; omega)]
 ·rw [bfD h, zd0 hy h1 (by omega) h3]
theorem Gb5 {x y : Int} (hx : Sm 300000000000000 x) (hy : 0 < y) : aa4 x y = x / y := by unfold aa4; rw [jd3 hx hy]; rfl
theorem Gb6 {x y : Int} (hx : Sm 300000000000000 x) (hy : 0 < y) : aa5 x y = true := by unfold aa5; rw [jd3 hx hy]; rfl
theorem Rd5 (x : Int) {y : Int} (hy : 0 < y) (hy2 : y ≤ 4000000000000000000) : mb7 x y = some (i (x % y), []) := by
 have hz : (y == 0) = false := by rw [beq_eq_false_iff_ne]; omega
 obtain ⟨h1, h2, h3⟩ := jd2 (x := x) hy
 unfold mb7
 rw [bfD (by omega), bf hz, bf hz, Y0 (by omega) (by omega), Int.tmod_eq_emod_of_nonneg (by omega)]
 congr 3
 rw [Int.add_emod_right]
 conv => rhs; rw [← h1]
 rw [Int.add_mul_emod_self_left]
theorem Be9 (x : Int) {y : Int} (hy : 0 < y) (hy2 : y ≤ 4000000000000000000) : mb8 x y = x % y := by unfold mb8; rw [Rd5 x hy hy2]; rfl
theorem Rd6 (x : Int) {y : Int} (hy : 0 < y) (hy2 : y ≤ 4000000000000000000) : Xa8 x y = true := by unfold Xa8; rw [Rd5 x hy hy2]; rfl
noncomputable def Wb2 (s : V3 × V3) (x : Pt) : V3 × V3 :=
 (⟨if x.px / x.pw < s.1.x then x.px / x.pw else s.1.x, if x.py / x.pw < s.1.y then x.py / x.pw else s.1.y, if x.pz / x.pw < s.1.z then x.pz / x.pw else s.1.z⟩,
  ⟨if W (0 - -x.px / x.pw) > s.2.x then W (0 - -x.px / x.pw) else s.2.x, if W (0 - -x.py / x.pw) > s.2.y then W (0 - -x.py / x.pw) else s.2.y, if W (0 - -x.pz / x.pw) > s.2.z then W (0 - -x.pz / x.pw) else s.2.z⟩)
noncomputable def bnd (c : List Pln) : V3 × V3 × Bool :=
 if ful c then (((pts c).foldl Wb2 (⟨24, 24, 24⟩, ⟨-24, -24, -24⟩)).1, ((pts c).foldl Wb2 (⟨24, 24, 24⟩, ⟨-24, -24, -24⟩)).2, true) else (⟨0, 0, 0⟩, ⟨0, 0, 0⟩, false)
theorem Rd7 {x : Int} (h : Sm 300000000000000 x) : W (0 - x) = -x := by obtain ⟨h1, h2⟩ := h; rw [Y0 (by omega) (by omega)]; omega
theorem Sm.neg {n x : Int} (h : Sm n x) : Sm n (-x) := ⟨by have := h.2; omega, by have := h.1; omega⟩
noncomputable def Ce0 (r : V3 × V3 × Bool) : b7 := .tup [.agg (tV.row r.1), .agg (tV.row r.2.1), b r.2.2]
theorem td3 (X : List Pt) (hX : X.length ≤ 8000000) (hok : ∀ x ∈ X, Okx x) (s : V3 × V3) : ∃ m, lp (ga1 ⟨X, (X.length : Int)⟩) ⟨0, s.1.x, s.1.y, s.1.z, s.2.x, s.2.y, s.2.z⟩ = (1, ⟨m, (X.foldl Wb2 s).1.x, (X.foldl Wb2 s).1.y, (X.foldl Wb2 s).1.z, (X.foldl Wb2 s).2.x, (X.foldl Wb2 s).2.y, (X.foldl Wb2 s).2.z⟩) := by
 have h := Fb3 (step := ga1 ⟨X, (X.length : Int)⟩) (mk := fun j (s : V3 × V3) => (⟨(j : Int), s.1.x, s.1.y, s.1.z, s.2.x, s.2.y, s.2.z⟩ : W6)) (f := Wb2) (fin := 1) tX X (fun _ _ => True) (by omega)
  (fun j s hj _ => ⟨by
   have hx := hok _ (sc7 tX hj)
   simp only [ga1, la5, Int.toNat_natCast, Rd7 hx.c1, Rd7 hx.c2, Rd7 hx.c3, Gb5 hx.c1 hx.w1, Gb5 hx.c2 hx.w1, Gb5 hx.c3 hx.w1, Gb6 hx.c1 hx.w1, Gb6 hx.c2 hx.w1, Gb6 hx.c3 hx.w1,
    Gb5 hx.c1.neg hx.w1, Gb5 hx.c2.neg hx.w1, Gb5 hx.c3.neg hx.w1, Gb6 hx.c1.neg hx.w1, Gb6 hx.c2.neg hx.w1, Gb6 hx.c3.neg hx.w1, n8 hj (by omega)]
   rw [btD (l0 hj), bt (e8 hj)]
   rfl, trivial⟩)
  (fun s _ => by simp only [ga1, la5]; rw [bfD (v8 (Nat.lt_irrefl _))]) 0 (Nat.zero_le _) s trivial
 have h := h.1
 rw [List.drop_zero] at h
 exact ⟨_, h⟩
theorem jd4 {c : List Pln} (hc : c.length ≤ 1000000000) : Ha1 c = some (Ce0 (bnd c), []) := by
 have ht : P7 ⟨24, 24, 24⟩ (-1) = ⟨-24, -24, -24⟩ := by
  unfold P7
  rw [show W (24 * -1) = -24 from by rw [Ed5]; rfl]
 obtain ⟨m, hm⟩ := td3 (pts c) (nc9 c) de9 (⟨24, 24, 24⟩, ⟨-24, -24, -24⟩)
 unfold Ha1 bnd
 simp only [l8, K0, l6, sb1 hc, sb2 hc, nb6 hc, nb7 hc, ht, hm]
 cases ful c <;> rfl
theorem zd1 (r : V3 × V3 × Bool) : (cd1 r1V r1V r1B).rd (Ce0 r, []) = some r := rfl
theorem ee1 {c : List Pln} (hc : c.length ≤ 1000000000) : Wa0 c = bnd c := by unfold Wa0; rw [jd4 hc]; exact Da5 _ (zd1 _)
theorem ee2 {c : List Pln} (hc : c.length ≤ 1000000000) : Wa1 c = true := by unfold Wa1; rw [jd4 hc]; exact Qa0 _ (zd1 _)
theorem Rd8 (x : Pt) : (x.px == x.px && (x.py == x.py && (x.pz == x.pz && (x.pw == x.pw && true)))) = true := (Tc8 x x).2 rfl
theorem Rd9 (x : Pln) : (x.n.x == x.n.x && (x.n.y == x.n.y && (x.n.z == x.n.z && (x.b == x.b && true)))) = true := by simp
theorem Kb8 (l : List Pt) (hl : l.length ≤ 1000000000) : la8 l l = some (b true, []) := by
 have h := Ra6 (step := Z2 ⟨l, l⟩) (mk := fun j => (⟨(j : Int)⟩ : D5)) (c := fun _ => false) (u := 1) (fin := 2) tX l hl
  (fun j hj => by
   simp only [Z2, X2, Int.toNat_natCast, n8 hj (by omega), Rd8]
   rw [btD (l0 hj), bt (e8 hj), bt (e8 hj)]
   rfl)
  (by simp only [Z2, X2]; rw [bfD (v8 (Nat.lt_irrefl _))]) 0 (Nat.zero_le _)
 rw [List.drop_zero, show (l.any fun _ => false) = false by simp] at h
 unfold la8
 simp only [l8, l6]
 rw [show (⟨0⟩ : D5) = ⟨((0 : Nat) : Int)⟩ from rfl, h, bf (by simp)]
 rfl
theorem Wb3 (l : List Pt) (hl : l.length ≤ 1000000000) : la9 l l = true := by unfold la9; rw [Kb8 l hl]; rfl
theorem Wb4 (l : List Pt) (hl : l.length ≤ 1000000000) : ma0 l l = true := by unfold ma0; rw [Kb8 l hl]; rfl
theorem zd2 (l : List Pln) (hl : l.length ≤ 1000000000) : bb8 l l = some (b true, []) := by
 have h := Ra6 (step := za1 ⟨l, l⟩) (mk := fun j => (⟨(j : Int)⟩ : ba0)) (c := fun _ => false) (u := 1) (fin := 2) tP l hl
  (fun j hj => by
   simp only [za1, ua8, Int.toNat_natCast, n8 hj (by omega), Rd9]
   rw [btD (l0 hj), bt (e8 hj), bt (e8 hj)]
   rfl)
  (by simp only [za1, ua8]; rw [bfD (v8 (Nat.lt_irrefl _))]) 0 (Nat.zero_le _)
 rw [List.drop_zero, show (l.any fun _ => false) = false by simp] at h
 unfold bb8
 simp only [l8, l6]
 rw [show (⟨0⟩ : ba0) = ⟨((0 : Nat) : Int)⟩ from rfl, h, bf (by simp)]
 rfl
theorem re2 (l : List Pln) (hl : l.length ≤ 1000000000) : sb9 l l = true := by unfold sb9; rw [zd2 l hl]; rfl
theorem re3 (l : List Pln) (hl : l.length ≤ 1000000000) : tb0 l l = true := by unfold tb0; rw [zd2 l hl]; rfl
end Go.Ev.Ce
namespace Go.Ev.Ce
open Go Go.Ev Go.Ev.L Go.Proofs
def Nx {σ : Type} (x : Stp σ) (E : Nat → Prop) (N : σ → Prop) : Prop := (∃ t, x = .exit t ∧ E t) ∨ ∃ s, x = .next s ∧ N s
theorem Nx.sl {σ : Type} {c : Bool} {t e : Stp σ} {E : Nat → Prop} {N : σ → Prop} (h1 : c = true → Nx t E N) (h2 : c = false → Nx e E N) : Nx (sl c t e) E N := by cases c; exact h2 rfl; exact h1 rfl
theorem Nx.ex {σ : Type} {t : Nat} {E : Nat → Prop} {N : σ → Prop} (h : E t) : Nx (.exit t) E N := .inl ⟨t, rfl, h⟩
theorem Nx.nx {σ : Type} {s : σ} {E : Nat → Prop} {N : σ → Prop} (h : N s) : Nx (.next s) E N := .inr ⟨s, rfl, h⟩
theorem ia0 {σ τ : Type} {step : σ → Stp σ} {mk : Nat → τ → σ} (n : Nat) (I : Nat → τ → Prop) (E : Nat → σ → Prop) (hn : n ≤ 1000000000)
  (h : ∀ j a, j < n → I j a → Nx (step (mk j a)) (fun t => E t (mk j a)) (fun s => ∃ a', s = mk (j + 1) a' ∧ I (j + 1) a'))
  (hf : ∀ j a, n ≤ j → I j a → ∃ t, step (mk j a) = .exit t ∧ E t (mk j a)) (j0 : Nat) (a : τ) (hi : I j0 a) : ∃ t s, lp step (mk j0 a) = (t, s) ∧ E t s := by
 have key := Mb6 (step := step) (I := fun m s => ∃ j a, m = n - j ∧ s = mk j a ∧ I j a) (Q := E) (fun m s ⟨j, a, hm, hs, ha⟩ => by
  subst hs
  by_cases hlt : j < n
  ·rcases h j a hlt ha with h1 | ⟨s', h1, a', h2, h3⟩
   ·exact .inl h1
   ·subst h2
    exact .inr ⟨_, n - (j + 1), by omega, h1, j + 1, a', rfl, rfl, h3⟩
  ·exact .inl (hf j a (by omega) ha)) (n - j0) (mk j0 a) (by omega) ⟨j0, a, rfl, rfl, hi⟩
 exact ⟨_, _, rfl, key⟩
def Rd {ρ : Type} (R : RR ρ) (o : Option (b7 × List b8)) (P : ρ → Prop) : Prop := ∃ x r, o = some x ∧ R.rd x = some r ∧ P r
theorem Rd.p {ρ : Type} {R : RR ρ} {o : Option (b7 × List b8)} {P : ρ → Prop} (h : Rd R o P) : P (O4 R o) := by
 obtain ⟨x, r, h1, h2, h3⟩ := h
 rw [h1, Da5 R h2]
 exact h3
theorem Rd.g {ρ : Type} {R : RR ρ} {o : Option (b7 × List b8)} {P : ρ → Prop} (h : Rd R o P) : okO R o = true := by
 obtain ⟨x, r, h1, h2, h3⟩ := h
 rw [h1]
 exact Qa0 R h2
theorem Rd.sl {ρ : Type} {R : RR ρ} {c : Bool} {t e : Option (b7 × List b8)} {P : ρ → Prop} (h1 : c = true → Rd R t P) (h2 : c = false → Rd R e P) : Rd R (sl c t e) P := by cases c; exact h2 rfl; exact h1 rfl
theorem X7 (n : Int) (l : List Int) (j : Int) (h1 : 0 ≤ j) (h2 : j ≤ 1000000) (hn : 0 < n) (hn2 : n ≤ 1000000) :
  ∃ v j', l9 ⟨n, l, j⟩ = ⟨1, v, j'⟩ ∧ 0 ≤ v ∧ v < n ∧ j ≤ j' ∧ j' ≤ j + 1 := by
 unfold l9 ga2
 simp only
 by_cases h : j ≥ (l.length : Int)
 ·rw [btD h]
  exact ⟨0, j, rfl, by omega, hn, by omega, by omega⟩
 ·rw [bfD h]
  have hW : W (W (j + 1) - 1) = j := by rw [sc6, Y0 (by omega) (by omega)]; omega
  have hW2 : W (j + 1) = j + 1 := Y0 (by omega) (by omega)
  have hin : inB j l.length = true := by rw [Rc0]; exact decide_eq_true (by omega)
  rw [hW, hW2, hin, Rd6 _ hn (by omega), Be9 _ hn (by omega)]
  exact ⟨_, _, rfl, Int.emod_nonneg _ (by omega), Int.emod_lt_of_pos _ hn, by omega, by omega⟩
theorem Cb5 (m : Int) (l : List Int) (j : Int) (h1 : 0 ≤ j) (h2 : j ≤ 900000) (hm : 0 ≤ m) (hm2 : m ≤ 100000) :
  ∃ a b c j', La4 ⟨m, l, j⟩ = ⟨1, a, b, c, l, j'⟩ ∧ Sm m a ∧ Sm m b ∧ Sm m c ∧ j ≤ j' ∧ j' ≤ j + 3 := by
 unfold La4 Xa9
 simp only [l8, l6]
 have hW : W (W (2 * m) + 1) = 2 * m + 1 := by rw [Za0, Y0 (by omega) (by omega)]
 rw [hW]
 obtain ⟨v1, j1, e1, a1, b1, c1, d1⟩ := X7 (2 * m + 1) l j h1 (by omega) (by omega) (by omega)
 rw [e1]
 obtain ⟨v2, j2, e2, a2, b2, c2, d2⟩ := X7 (2 * m + 1) l j1 (by omega) (by omega) (by omega) (by omega)
 simp only
 rw [e2]
 obtain ⟨v3, j3, e3, a3, b3, c3, d3⟩ := X7 (2 * m + 1) l j2 (by omega) (by omega) (by omega) (by omega)
 simp only
 rw [e3]
 refine ⟨v1 - m, v2 - m, v3 - m, j3, ?_, ⟨by omega, by omega⟩, ⟨by omega, by omega⟩, ⟨by omega, by omega⟩, by omega, by omega⟩
 simp only
 rw [Y0 (n := v1 - m) (by omega) (by omega), Y0 (n := v2 - m) (by omega) (by omega), Y0 (n := v3 - m) (by omega) (by omega)]
 rfl
def inV (v : V3) : Bool := smb 24 v.x && (smb 24 v.y && smb 24 v.z)
theorem Wb5 (v : V3) : inV v = true ↔ Sm 24 v.x ∧ Sm 24 v.y ∧ Sm 24 v.z := by unfold inV; rw [Bool.and_eq_true, Bool.and_eq_true, Wa2, Wa2, Wa2]
theorem Sd0 (v : V3) : Cb1 v = some (b (inV v), []) := by
 unfold Cb1 inV smb
 cases h1 : decide (v.x < -24) <;> cases h2 : decide (v.x > 24) <;> cases h3 : decide (v.y < -24) <;> cases h4 : decide (v.y > 24) <;> cases h5 : decide (v.z < -24) <;> cases h6 : decide (v.z > 24) <;> rfl
theorem zd3 (v : V3) : Qa1 v = inV v := by unfold Qa1; rw [Sd0]; rfl
theorem jd5 (v : V3) : Qa2 v = true := by unfold Qa2; rw [Sd0]; rfl
def sub (a b : V3) : V3 := ⟨a.x - b.x, a.y - b.y, a.z - b.z⟩
theorem zd4 {a b : V3} (ha : inV a = true) (hb : inV b = true) : wa1 a b = sub a b ∧ Sm 48 (sub a b).x ∧ Sm 48 (sub a b).y ∧ Sm 48 (sub a b).z := by
 rw [Wb5] at ha hb
 obtain ⟨⟨a1, a2⟩, ⟨a3, a4⟩, a5, a6⟩ := ha
 obtain ⟨⟨b1, b2⟩, ⟨b3, b4⟩, b5, b6⟩ := hb
 unfold wa1 sub
 rw [Y0 (by omega) (by omega), Y0 (by omega) (by omega), Y0 (by omega) (by omega)]
 exact ⟨rfl, ⟨by show _ ≤ a.x - b.x; omega, by show a.x - b.x ≤ _; omega⟩, ⟨by show _ ≤ a.y - b.y; omega, by show a.y - b.y ≤ _; omega⟩, ⟨by show _ ≤ a.z - b.z; omega, by show a.z - b.z ≤ _; omega⟩⟩
theorem Kb9 {a b c : V3} (ha : inV a = true) (hb : inV b = true) (hc : inV c = true) :
  Q8 (wa1 b a) (wa1 c a) = i6 (sub b a) (sub c a) ∧ Sm 4608 (i6 (sub b a) (sub c a)).x ∧ Sm 4608 (i6 (sub b a) (sub c a)).y ∧ Sm 4608 (i6 (sub b a) (sub c a)).z := by
 obtain ⟨e1, ⟨u1, u2⟩, ⟨u3, u4⟩, u5, u6⟩ := zd4 hb ha
 obtain ⟨e2, ⟨v1, v2⟩, ⟨v3, v4⟩, v5, v6⟩ := zd4 hc ha
 rw [e1, e2, Vb1]
 generalize sub b a = p at *
 generalize sub c a = q at *
 have h1 := mb u3 u4 v5 v6; have h2 := mb u5 u6 v3 v4; have h3 := mb u5 u6 v1 v2; have h4 := mb u1 u2 v5 v6; have h5 := mb u1 u2 v3 v4; have h6 := mb u3 u4 v1 v2
 have k : Sm 4608 (i6 p q).x ∧ Sm 4608 (i6 p q).y ∧ Sm 4608 (i6 p q).z := by unfold Sm i6; simp only; omega
 obtain ⟨k1, k2, k3⟩ := k
 rw [ra8 (k1.mono (by omega)), ra8 (k2.mono (by omega)), ra8 (k3.mono (by omega))]
 exact ⟨rfl, k1, k2, k3⟩
def fa1 (a b c : V3) : Pln × Bool :=
 if inV a && (inV b && inV c) then
  if g3 (i6 (sub b a) (sub c a)) = 0 then (⟨⟨0, 0, 0⟩, 0⟩, false)
  else (⟨⟨Int.tdiv (i6 (sub b a) (sub c a)).x (g3 (i6 (sub b a) (sub c a))), Int.tdiv (i6 (sub b a) (sub c a)).y (g3 (i6 (sub b a) (sub c a))), Int.tdiv (i6 (sub b a) (sub c a)).z (g3 (i6 (sub b a) (sub c a)))⟩,
   dot ⟨Int.tdiv (i6 (sub b a) (sub c a)).x (g3 (i6 (sub b a) (sub c a))), Int.tdiv (i6 (sub b a) (sub c a)).y (g3 (i6 (sub b a) (sub c a))), Int.tdiv (i6 (sub b a) (sub c a)).z (g3 (i6 (sub b a) (sub c a)))⟩ a⟩, true)
 else (⟨⟨0, 0, 0⟩, 0⟩, false)
theorem dc8 (v : V3) : 0 ≤ g3 v := by unfold g3; omega
theorem zc3 (a c d : V3) : ya8 a c d = some (.tup [.agg (tP.row (fa1 a c d).1), b (fa1 a c d).2], []) := by
 unfold ya8 fa1
 simp only [zd3, jd5]
 cases ha : inV a with
 | false => rfl
 | true =>
  cases hc : inV c with
  | false => rfl
  | true =>
   cases hd : inV d with
   | false => rfl
   | true =>
    obtain ⟨e, k1, k2, k3⟩ := Kb9 ha hc hd
    rw [e]
    generalize i6 (sub c a) (sub d a) = n at *
    have m1 := k1.mono (m := 1000000000000000000) (by omega)
    have m2 := k2.mono (m := 1000000000000000000) (by omega)
    have m3 := k3.mono (m := 1000000000000000000) (by omega)
    rw [Pd9 m1 m2 m3, wc7 m1 m2 m3]
    by_cases h0 : g3 n = 0
    ·rw [show (g3 n == 0) = true from by rw [h0]; rfl]
     simp only [Bool.and_self, if_true, h0]
     rfl
    ·have hp := dc8 n
     have q1 := D4 (g := g3 n) k1 (by omega)
     have q2 := D4 (g := g3 n) k2 (by omega)
     have q3 := D4 (g := g3 n) k3 (by omega)
     rw [show (g3 n == 0) = false from by rw [beq_eq_false_iff_ne]; exact h0, qe1 m1 m2 m3 h0]
     simp only [Bool.and_self, if_true, h0, if_false]
     rw [ra8 (q1.mono (by omega)), ra8 (q2.mono (by omega)), ra8 (q3.mono (by omega))]
     have hdot : pa9 ⟨Int.tdiv n.x (g3 n), Int.tdiv n.y (g3 n), Int.tdiv n.z (g3 n)⟩ a = dot ⟨Int.tdiv n.x (g3 n), Int.tdiv n.y (g3 n), Int.tdiv n.z (g3 n)⟩ a := by
      unfold pa9
      simp only [Za0, zb4]
      obtain ⟨⟨a1, a2⟩, ⟨a3, a4⟩, a5, a6⟩ := (Wb5 a).1 ha
      have r1 := mb q1.1 q1.2 a1 a2; have r2 := mb q2.1 q2.2 a3 a4; have r3 := mb q3.1 q3.2 a5 a6
      rw [Y0 (by omega) (by omega)]
      rfl
     rw [hdot]
     rfl
theorem nb9 (a b c : V3) : ia9 a b c = fa1 a b c := by unfold ia9; rw [zc3]; rfl
theorem Da6 (a b c : V3) : ja0 a b c = true := by unfold ja0; rw [zc3]; rfl
theorem ee3 (l : List Int) : Rd (one r1P) (Ba9 l) (fun _ => True) := by
 unfold Ba9
 simp only [l8, l6]
 obtain ⟨v1, j1, e1, a1, b1, c1, d1⟩ := X7 8 l 0 (by omega) (by omega) (by omega) (by omega)
 rw [e1]
 simp only
 obtain ⟨v2, j2, e2, a2, b2, c2, d2⟩ := X7 17 l j1 (by omega) (by omega) (by omega) (by omega)
 rw [e2]
 simp only
 obtain ⟨x1, x2, x3, j3, e3, _, _, _, c3, d3⟩ := Cb5 8 l j2 (by omega) (by omega) (by omega) (by omega)
 rw [e3]
 simp only
 obtain ⟨y1, y2, y3, j4, e4, _, _, _, c4, d4⟩ := Cb5 8 l j3 (by omega) (by omega) (by omega) (by omega)
 rw [e4]
 simp only
 obtain ⟨z1, z2, z3, j5, e5, _, _, _, c5, d5⟩ := Cb5 8 l j4 (by omega) (by omega) (by omega) (by omega)
 rw [e5]
 simp only [nb9, Da6, Rd6 _ (show (0 : Int) < 3 by omega) (by omega), l6]
 simp only [Nat.beq_refl, Bool.and_true, n5]
 refine Rd.sl (fun _ => Rd.sl (fun _ => ⟨_, _, rfl, rfl, trivial⟩) fun _ => ?_) (fun _ => ?_)
 ·exact Rd.sl (fun _ => ⟨_, _, rfl, rfl, trivial⟩) fun _ => Rd.sl (fun _ => ⟨_, _, rfl, rfl, trivial⟩) fun _ => ⟨_, _, rfl, rfl, trivial⟩
 ·exact Rd.sl (fun _ => ⟨_, _, rfl, rfl, trivial⟩) fun _ => Rd.sl (fun _ => ⟨_, _, rfl, rfl, trivial⟩) fun _ => ⟨_, _, rfl, rfl, trivial⟩
theorem Vc6 (l : List Int) : bb5 l = true := (ee3 l).g
theorem ee4 (p : Pln) (v : V3) : Rd (one r1I) (Ca1 p v) (fun _ => True) := by
 unfold Ca1
 simp only [wc8, jd5, n5]
 exact Rd.sl (fun _ => ⟨_, _, rfl, rfl, trivial⟩) fun _ => Rd.sl (fun _ => ⟨_, _, rfl, rfl, trivial⟩) fun _ => Rd.sl (fun _ => ⟨_, _, rfl, rfl, trivial⟩) fun _ => Rd.sl (fun _ => ⟨_, _, rfl, rfl, trivial⟩) fun _ => ⟨_, _, rfl, rfl, trivial⟩
theorem Vc7 (p : Pln) (v : V3) : sb3 p v = true := (ee4 p v).g
theorem Ce1 (P : na9) (hl : P.f0.length ≤ 1000000000) : ∃ t s, lp (A4 P) ⟨0⟩ = (t, s) ∧ (t = 1 ∨ t = 2 ∨ t = 3) := by
 obtain ⟨l, x1, x2, x3, x4, x5, x6, x7, x8⟩ := P
 refine ia0 (step := A4 ⟨l, x1, x2, x3, x4, x5, x6, x7, x8⟩) (mk := fun j (_ : Unit) => (⟨(j : Int)⟩ : aa6)) l.length (fun _ _ => True) (fun t _ => t = 1 ∨ t = 2 ∨ t = 3) hl (fun j a hj _ => ?_) (fun j a hj _ => ?_) 0 () trivial
 ·simp only [A4, W7, Vc7, Int.toNat_natCast, n8 hj (show l.length ≤ 4611686018427387904 from Nat.le_trans hl (by omega))]
  rw [btD (l0 hj), bt (e8 hj), n5]
  exact Nx.sl (fun _ => Nx.sl (fun _ => .ex (by simp)) fun _ => .nx ⟨(), rfl, trivial⟩) fun _ => .ex (by simp)
 ·simp only [A4, W7]
  rw [bfD (by omega)]
  exact ⟨_, rfl, by simp⟩
theorem Ce2 (l : List V3) (hl : l.length ≤ 1000000000) (a c : Nat) (ha : a < l.length) (hc : c < a) : ∃ t s, lp (O1 ⟨(a : Int), (c : Int)⟩) ⟨l, 0⟩ = (t, s) ∧ ((t = 1 ∨ t = 2) ∧ s.f0 = l) := by
 refine ia0 (step := O1 ⟨(a : Int), (c : Int)⟩) (mk := fun j (_ : Unit) => (⟨l, (j : Int)⟩ : aa7)) c (fun _ _ => True) (fun t s => (t = 1 ∨ t = 2) ∧ s.f0 = l) (by omega) (fun j x hj _ => ?_) (fun j x hj _ => ?_) 0 () trivial
 ·simp only [O1, da9, Da6, Int.toNat_natCast, l8, l6, n8 hj (show c ≤ 4611686018427387904 by omega)]
  rw [btD (l0 hj), bt (e8 ha), bt (e8 (show c < l.length by omega)), bt (e8 (show j < l.length by omega)), n5]
  generalize hP : na9.mk _ _ _ _ _ _ _ _ _ = P3
  obtain ⟨t, s, h1, h2⟩ := Ce1 P3 (by subst hP; exact hl)
  rw [h1]
  rcases h2 with rfl | rfl | rfl
  ·exact .ex (by simp)
  ·exact .nx ⟨(), rfl, trivial⟩
  ·exact .nx ⟨(), rfl, trivial⟩
 ·simp only [O1, da9]
  rw [bfD (by omega)]
  exact ⟨_, rfl, by simp⟩
theorem Ce3 (l : List V3) (hl : l.length ≤ 1000000000) (a : Nat) (ha : a < l.length) : ∃ t s, lp (O2 ⟨(a : Int)⟩) ⟨l, 0⟩ = (t, s) ∧ ((t = 1 ∨ t = 2) ∧ s.f0 = l) := by
 refine ia0 (step := O2 ⟨(a : Int)⟩) (mk := fun j (_ : Unit) => (⟨l, (j : Int)⟩ : aa8)) a (fun _ _ => True) (fun t s => (t = 1 ∨ t = 2) ∧ s.f0 = l) (by omega) (fun j x hj _ => ?_) (fun j x hj _ => ?_) 0 () trivial
 ·simp only [O2, ea0, l8, l6, n8 hj (show a ≤ 4611686018427387904 by omega)]
  obtain ⟨t, s, h1, h2, h3⟩ := Ce2 l hl a j ha hj
  rw [btD (l0 hj), h1]
  rcases h2 with rfl | rfl
  ·exact .ex (by simp)
  ·exact .nx ⟨(), by rw [h3], trivial⟩
 ·simp only [O2, ea0]
  rw [bfD (by omega)]
  exact ⟨_, rfl, by simp⟩
theorem gb2 (l : List V3) (hl : l.length ≤ 1000000000) : Rd (one r1B) (Ca2 l) (fun _ => True) := by
 have key : ∃ t s, lp (O3 ⟨⟩) ⟨l, 0⟩ = (t, s) ∧ (t = 1 ∨ t = 2) := by
  refine ia0 (step := O3 ⟨⟩) (mk := fun j (_ : Unit) => (⟨l, (j : Int)⟩ : aa9)) l.length (fun _ _ => True) (fun t s => (t = 1 ∨ t = 2)) hl (fun j x hj _ => ?_) (fun j x hj _ => ?_) 0 () trivial
  ·simp only [O3, ea1, l8, l6, n8 hj (show l.length ≤ 4611686018427387904 by omega)]
   obtain ⟨t, s, h1, h2, h3⟩ := Ce3 l hl j hj
   rw [btD (l0 hj), h1]
   rcases h2 with rfl | rfl
   ·exact .ex (by simp)
   ·exact .nx ⟨(), by rw [h3], trivial⟩
  ·simp only [O3, ea1]
   rw [bfD (by omega)]
   exact ⟨_, rfl, by simp⟩
 obtain ⟨t, s, h1, h2⟩ := key
 unfold Ca2
 simp only [l8, l6]
 rw [h1]
 rcases h2 with rfl | rfl <;> exact ⟨_, _, rfl, rfl, trivial⟩
theorem td4 (l : List V3) (hl : l.length ≤ 1000000000) : La7 l = true := (gb2 l hl).g
theorem td5 (l : List V3) (hl : l.length ≤ 1000000000) : Rd (one r1I) (ua4 l) (fun _ => True) := by
 have h := Ra6 (step := W8 ⟨l⟩) (mk := fun j => (⟨(j : Int)⟩ : K2)) (c := fun v => !inV v) (u := 1) (fin := 2) tV l hl
  (fun j hj => by
   simp only [W8, Y6, Int.toNat_natCast, zd3, jd5, n8 hj (show l.length ≤ 4611686018427387904 by omega)]
   rw [btD (l0 hj), bt (e8 hj), n5])
  (by simp only [W8, Y6]; rw [bfD (v8 (Nat.lt_irrefl _))]) 0 (Nat.zero_le _)
 unfold ua4
 simp only [l8, l6, K0, td4 l hl]
 rw [show (⟨0⟩ : K2) = ⟨((0 : Nat) : Int)⟩ from rfl, h]
 refine Rd.sl (fun _ => ⟨_, _, rfl, rfl, trivial⟩) fun _ => ?_
 rw [List.drop_zero]
 cases l.any fun v => !inV v with
 | true => exact ⟨_, _, rfl, rfl, trivial⟩
 | false =>
  show Rd (one r1I) (sl (Ca3 l) (some (i 11, [])) (some (i 0, []))) (fun _ => True)
  exact Rd.sl (fun _ => ⟨_, _, rfl, rfl, trivial⟩) fun _ => ⟨_, _, rfl, rfl, trivial⟩
theorem Mc9 (l : List V3) (hl : l.length ≤ 1000000000) : Cb3 l = true := (td5 l hl).g
theorem Sd1 (p : Pln) (l : List V3) (hl : l.length ≤ 1000000000) : Rd (one r1B) (ua5 p l) (fun _ => True) := by
 have h := Ra6 (step := W9 ⟨l, p.n.x, p.n.y, p.n.z, p.b⟩) (mk := fun j => (⟨(j : Int)⟩ : K3)) (c := fun v => decide (La6 p v > 0)) (u := 1) (fin := 2) tV l hl
  (fun j hj => by
   simp only [W9, Y7, Int.toNat_natCast, Vc7, n8 hj (show l.length ≤ 4611686018427387904 by omega)]
   rw [btD (l0 hj), bt (e8 hj), n5])
  (by simp only [W9, Y7]; rw [bfD (v8 (Nat.lt_irrefl _))]) 0 (Nat.zero_le _)
 unfold ua5
 simp only [l8, l6]
 rw [show (⟨0⟩ : K3) = ⟨((0 : Nat) : Int)⟩ from rfl, h]
 split <;> exact ⟨_, _, rfl, rfl, trivial⟩
theorem zd5 (p : Pln) (l : List V3) (hl : l.length ≤ 1000000000) : ca3 p l = true := (Sd1 p l hl).g
theorem re4 (p q : Pln) : Rd (one r1I) (ja1 p q) (fun _ => True) := by
 have key : ∃ t s, lp (F7 ⟨p.n.x, p.n.y, p.n.z, p.b, q.n.x, q.n.y, q.n.z, q.b⟩) ⟨0⟩ = (t, s) ∧ (t = 1 ∨ t = 2 ∨ t = 3) := by
  refine ia0 (step := F7 ⟨p.n.x, p.n.y, p.n.z, p.b, q.n.x, q.n.y, q.n.z, q.b⟩) (mk := fun j (_ : Unit) => (⟨(j : Int)⟩ : L6)) 4 (fun _ _ => True) (fun t s => (t = 1 ∨ t = 2 ∨ t = 3)) (by omega) (fun j x hj _ => ?_) (fun j x hj _ => ?_) 0 () trivial
  ·have hn := n8 hj (show 4 ≤ 4611686018427387904 by omega)
   simp only [F7, Q0, Int.toNat_natCast, hn]
   have hlt : (j : Int) < 4 := by omega
   have hin := e8 hj
   have g : ∀ x1 x2 x3 x4 : Int, ((Nat.ble ((0 + (j * 1)) + 1) 4) && (Q6 [(CK.int .i64)] (g9 [(i x1), (i x2), (i x3), (i x4)] (0 + (j * 1))))) = true := by
    intro x1 x2 x3 x4
    match j, hj with
    | 0, _ => rfl
    | 1, _ => rfl
    | 2, _ => rfl
    | 3, _ => rfl
   rw [btD hlt]
   simp only [hin, g, n5]
   exact Nx.sl (fun _ => .ex (by simp)) fun _ => Nx.sl (fun _ => .ex (by simp)) fun _ => .nx ⟨(), rfl, trivial⟩
  ·simp only [F7, Q0]
   rw [bfD (by omega)]
   exact ⟨_, rfl, by simp⟩
 obtain ⟨t, s, h1, h2⟩ := key
 unfold ja1
 simp only
 rw [h1]
 rcases h2 with rfl | rfl | rfl <;> exact ⟨_, _, rfl, rfl, trivial⟩
theorem Sd2 (p q : Pln) : kb3 p q = true := (re4 p q).g
theorem zc4 (l : List Pln) (n : Nat) (h : n ≤ l.length) : o7 (fun k => (fun k => tP.row (gL tP l k)) (0 + k)) (List.range (n - 0)) = bL tP (l.take n) := by
 rw [← Na8, o6, o6, List.length_take, Nat.min_eq_left h, Nat.sub_zero]
 apply List.map_congr_left
 intro k hk
 rw [List.mem_range] at hk
 show tP.row (gL tP l (0 + k)) = tP.row (gL tP (l.take n) k)
 congr 1
 simp [gL, List.getD_eq_getElem?_getD, List.getElem?_take, hk]
theorem zc5 (l : List Pln) (n : Nat) : o7 (fun k => (fun k => tP.row (gL tP l k)) (n + k)) (List.range (l.length - n)) = bL tP (l.drop n) := by
 rw [← Na8, o6, o6, List.length_drop]
 apply List.map_congr_left
 intro k hk
 show tP.row (gL tP l (n + k)) = tP.row (gL tP (l.drop n) k)
 rw [Vb3]
theorem Cb6 (l : List Pln) (x1 x2 x3 x4 : Int) : app (bL tP l) [[i x1, i x2, i x3, i x4]] = bL tP (l ++ [⟨⟨x1, x2, x3⟩, x4⟩]) := Ja9 tP l [⟨⟨x1, x2, x3⟩, x4⟩]
def vb5 (x : List Pln) (y : Pln) (n : Nat) : List Pln := x.take n ++ (y :: x.drop n)
theorem Vc8 {l : List Pln} {n : Nat} {r : List (List b7)} {P : List Pln → Prop} (hn : n = l.length) (hr : r = bL tP l) (h : P l) : Rd (one (r1L tP)) (some (.sl 0 0 n 0, [⟨50, 4, r, true, false, 0⟩])) P := by
 subst hn hr
 exact ⟨_, l, rfl, Ob0 l, h⟩
theorem Sd3 (x : List Pln) (y : Pln) (hx : x.length ≤ 1000000) : Rd (one (r1L tP)) (La8 x y) (fun r => r ≠ [] ∧ r.length ≤ x.length + 1 ∧ ∀ p ∈ r, p = y ∨ p ∈ x) := by
 have h := Va2 (step := V1 ⟨x, y.n.x, y.n.y, y.n.z, y.b⟩) (mk := fun j => (⟨(j : Int)⟩ : X0)) (c := fun p => !decide (ja2 p y < 0)) (u := 1) (fin := 2) tP x (by omega)
  (fun j hj => by
   simp only [V1, ja3, Int.toNat_natCast, Sd2, n8 hj (show x.length ≤ 4611686018427387904 by omega)]
   rw [btD (l0 hj), bt (e8 hj), n5]
   cases decide (ja2 (gL tP x j) y < 0) <;> rfl)
  (by simp only [V1, ja3]; rw [bfD (v8 (Nat.lt_irrefl _))]) 0 (Nat.zero_le _)
 rw [List.drop_zero] at h
 have key : ∃ t n, lp (V1 ⟨x, y.n.x, y.n.y, y.n.z, y.b⟩) ⟨0⟩ = (t, ⟨((n : Nat) : Int)⟩) ∧ (t = 1 ∨ t = 2) ∧ n ≤ x.length := by
  rw [show (⟨0⟩ : X0) = ⟨((0 : Nat) : Int)⟩ from rfl, h]
  split
  ·exact ⟨1, _, rfl, .inl rfl, by rw [Nat.zero_add]; exact List.findIdx_le_length⟩
  ·exact ⟨2, _, rfl, .inr rfl, Nat.le_refl _⟩
 obtain ⟨t, n, h1, h2, h3⟩ := key
 have hlo : inB (n : Int) (x.length + 1) = true := e8 (by omega)
 have hd : (bL tP (x.take n)).length = n := by rw [← m8, K1, List.length_take]; omega
 have hmem : ∀ p ∈ vb5 x y n, p = y ∨ p ∈ x := fun p hp => by
  unfold vb5 at hp
  rcases List.mem_append.1 hp with hp | hp
  ·exact .inr (List.mem_of_mem_take hp)
  ·rcases List.mem_cons.1 hp with hp | hp
   ·exact .inl hp
   ·exact .inr (List.mem_of_mem_drop hp)
 have hne : vb5 x y n ≠ [] := by unfold vb5; simp
 have hlen : (vb5 x y n).length = x.length + 1 := by unfold vb5; simp only [List.length_append, List.length_cons, List.length_take, List.length_drop]; omega
 have lt : len (bL tP (x.take n)) = n := by rw [m8]; exact hd
 have ld : len (bL tP (x.drop n)) = x.length - n := by rw [K1, List.length_drop]
 have b1 : (Nat.beq 1 1 && Nat.ble ((1 + (x.length - n)) * 32) room) = true := by rw [X5 (by omega)]; rfl
 have b2 : (Nat.beq 0 0 && Nat.ble ((0 + n) * 32) room) = true := by rw [X5 (by omega)]; rfl
 have e0 : app [] (bL tP (x.take n)) = bL tP (x.take n) := rfl
 have b3 : (Nat.beq (0 + n) n && Nat.ble (((0 + n) + 1) * 32) room) = true := by rw [X5 (by omega), Nat.zero_add, Nat.beq_refl]; rfl
 have l3 : len (bL tP (x.take n ++ [y])) = n + 1 := by rw [K1, List.length_append, List.length_take]; simp only [List.length_singleton]; omega
 have b4 : (Nat.beq ((0 + n) + 1) (n + 1) && Nat.ble ((((0 + n) + 1) + (x.length - n)) * 32) room) = true := by rw [X5 (by omega), Nat.zero_add, Nat.beq_refl]; rfl
 have z0 : ∀ {k : Nat}, Nat.beq k 0 = true → k = 0 := fun {k} h => Nat.eq_of_beq_eq_true h
 have fin : ∀ m r, m = x.length + 1 → r = bL tP (vb5 x y n) → Rd (one (r1L tP)) (some (.sl 0 0 m 0, [⟨50, 4, r, true, false, 0⟩])) (fun r => r ≠ [] ∧ r.length ≤ x.length + 1 ∧ ∀ p ∈ r, p = y ∨ p ∈ x) :=
  fun m r hm hr => Vc8 (by rw [hlen]; exact hm) hr ⟨hne, by omega, hmem⟩
 have tail : Rd (one (r1L tP)) (sl (Nat.beq n 0) (sl (Nat.beq (x.length - n) 0) (some ((.sl 0 0 1 0), [⟨50, 4, [[(i y.n.x), (i y.n.y), (i y.n.z), (i y.b)]], true, false, 0⟩]))
   (some ((.sl 0 0 (1 + (x.length - n)) 0), [⟨50, 4, (app [[(i y.n.x), (i y.n.y), (i y.n.z), (i y.b)]] (bL tP (x.drop n))), true, false, 0⟩])))
   (sl (Nat.beq (x.length - n) 0) (some ((.sl 0 0 ((0 + n) + 1) 0), [⟨50, 4, bL tP (x.take n ++ [y]), true, false, 0⟩]))
    (some ((.sl 0 0 (((0 + n) + 1) + (x.length - n)) 0), [⟨50, 4, (app (bL tP (x.take n ++ [y])) (bL tP (x.drop n))), true, false, 0⟩])))) (fun r => r ≠ [] ∧ r.length ≤ x.length + 1 ∧ ∀ p ∈ r, p = y ∨ p ∈ x) := by
  refine Rd.sl (fun q1 => Rd.sl (fun q2 => ?_) (fun q2 => ?_)) (fun q1 => Rd.sl (fun q2 => ?_) (fun q2 => ?_))
  ·have := z0 q1; have := z0 q2
   refine fin _ _ (by omega) ?_
   have : x = [] := List.eq_nil_of_length_eq_zero (by omega)
   subst this
   rw [show n = 0 by omega]; rfl
  ·have := z0 q1; subst this
   exact fin _ _ (by omega) rfl
  ·have := z0 q2
   refine fin _ _ (by omega) ?_
   unfold vb5
   rw [show x.drop n = [] from List.drop_eq_nil_of_le (by omega)]
  ·refine fin _ _ (by omega) ?_
   rw [Ja9]
   unfold vb5
   rw [List.append_assoc]; rfl
 have same : ∀ p : Pln, (p.n.x == y.n.x && (p.n.y == y.n.y && (p.n.z == y.n.z && (p.b == y.b && true)))) = true → n < x.length → Rd (one (r1L tP)) (some (eL tP x, [])) (fun r => r ≠ [] ∧ r.length ≤ x.length + 1 ∧ ∀ p ∈ r, p = y ∨ p ∈ x) := fun p _ hn =>
  ⟨_, x, rfl, yd4 tP x, List.ne_nil_of_length_pos (by omega), Nat.le_succ _, fun p hp => Or.inr hp⟩
 unfold La8
 simp only [l8, l6]
 rw [h1]
 simp only [Int.toNat_natCast, zc4 x n h3, zc5, lt, ld, b1, b2, e0, b3, Cb6, l3, b4, hlo, n5]
 have main : Rd (one (r1L tP)) (sl (decide ((n : Int) < (x.length : Int))) (sl (inB (n : Int) x.length) (sl (((gL tP x n).n.x == y.n.x) && (((gL tP x n).n.y == y.n.y) && (((gL tP x n).n.z == y.n.z) && (((gL tP x n).b == y.b) && true)))) (some (eL tP x, []))
   (sl (Nat.beq n 0) (sl (Nat.beq (x.length - n) 0) (some ((.sl 0 0 1 0), [⟨50, 4, [[(i y.n.x), (i y.n.y), (i y.n.z), (i y.b)]], true, false, 0⟩]))
   (some ((.sl 0 0 (1 + (x.length - n)) 0), [⟨50, 4, (app [[(i y.n.x), (i y.n.y), (i y.n.z), (i y.b)]] (bL tP (x.drop n))), true, false, 0⟩])))
   (sl (Nat.beq (x.length - n) 0) (some ((.sl 0 0 ((0 + n) + 1) 0), [⟨50, 4, bL tP (x.take n ++ [y]), true, false, 0⟩]))
    (some ((.sl 0 0 (((0 + n) + 1) + (x.length - n)) 0), [⟨50, 4, (app (bL tP (x.take n ++ [y])) (bL tP (x.drop n))), true, false, 0⟩]))))) none)
   (sl (Nat.beq n 0) (sl (Nat.beq (x.length - n) 0) (some ((.sl 0 0 1 0), [⟨50, 4, [[(i y.n.x), (i y.n.y), (i y.n.z), (i y.b)]], true, false, 0⟩]))
   (some ((.sl 0 0 (1 + (x.length - n)) 0), [⟨50, 4, (app [[(i y.n.x), (i y.n.y), (i y.n.z), (i y.b)]] (bL tP (x.drop n))), true, false, 0⟩])))
   (sl (Nat.beq (x.length - n) 0) (some ((.sl 0 0 ((0 + n) + 1) 0), [⟨50, 4, bL tP (x.take n ++ [y]), true, false, 0⟩]))
    (some ((.sl 0 0 (((0 + n) + 1) + (x.length - n)) 0), [⟨50, 4, (app (bL tP (x.take n ++ [y])) (bL tP (x.drop n))), true, false, 0⟩]))))) (fun r => r ≠ [] ∧ r.length ≤ x.length + 1 ∧ ∀ p ∈ r, p = y ∨ p ∈ x) := by
  by_cases hn : n < x.length
  ·rw [btD (l0 hn), bt (e8 hn)]
   exact Rd.sl (fun q => same _ q hn) fun _ => tail
  ·rw [bfD (v8 hn)]
   exact tail
 rcases h2 with rfl | rfl
 ·exact main
 ·exact main
end Go.Ev.Ce
namespace Go.Ev.Ce
open Go Go.Ev Go.Ev.L Go.Proofs
theorem zd6 (x : List Pln) (y : Pln) (hx : x.length ≤ 1000000) : ga3 x y = true := (Sd3 x y hx).g
theorem le3 (x : List Pln) (y : Pln) (hx : x.length ≤ 1000000) : D0 x y ≠ [] ∧ (D0 x y).length ≤ x.length + 1 ∧ ∀ p ∈ D0 x y, p = y ∨ p ∈ x := (Sd3 x y hx).p
structure Fc (ph : Nat) (out : List Pln) (m : Nat) : Prop where
 h : (ph = 0 ∧ out = []) ∨ ph = 1
 l : out.length ≤ m
theorem Fc.more {ph m m' : Nat} {out : List Pln} (h : Fc ph out m) (hm : m ≤ m') : Fc ph out m' := ⟨h.h, Nat.le_trans h.l hm⟩
theorem ee5 (l : List V3) (hl : l.length ≤ 48) (a c : Nat) (ha : a < l.length) (hc : c < a) (h0 : Nat) (out : List Pln) (m : Nat) (hm : m ≤ 900000) (hf : Fc h0 out m) :
  ∃ t s, lp (Q1 ⟨l, (a : Int), (c : Int)⟩) ⟨h0, 0, out⟩ = (t, s) ∧ (t = s.ph + 1 ∧ Fc s.ph s.ea7 (m + 100)) := by
 refine ia0 (step := Q1 ⟨l, (a : Int), (c : Int)⟩) (mk := fun j (x : Nat × List Pln) => (⟨x.1, (j : Int), x.2⟩ : s5)) c (fun j x => Fc x.1 x.2 (m + 2 * j) ∧ j ≤ 48) (fun t s => t = s.ph + 1 ∧ Fc s.ph s.ea7 (m + 100)) (by omega) (fun j x hj hx => ?_) (fun j x hj hx => ?_) 0 (h0, out) ⟨hf, by omega⟩
 ·obtain ⟨h, o⟩ := x
  obtain ⟨⟨hx, hx2⟩, _⟩ := hx
  have hn := n8 hj (show c ≤ 4611686018427387904 by omega)
  have hh : ∀ p, ca3 p l = true := fun p => zd5 p l (by omega)
  have hg1 : ∀ y, ga3 o y = true := fun y => zd6 o y (by simp only at hx2; omega)
  have hp1 : ∀ y, D0 o y ≠ [] ∧ (D0 o y).length ≤ o.length + 1 := fun y => by have := le3 o y (by simp only at hx2; omega); exact ⟨this.1, this.2.1⟩
  have hg2 : ∀ y z, ga3 (D0 o y) z = true := fun y z => zd6 _ z (by have := (hp1 y).2; simp only at hx2; omega)
  have hp2 : ∀ y z, (D0 (D0 o y) z).length ≤ o.length + 2 := fun y z => by
   have := (le3 (D0 o y) z (by have := (hp1 y).2; simp only at hx2; omega)).2.1
   have := (hp1 y).2
   omega
  simp only at hx hx2
  have stay : Fc h o (m + 2 * (j + 1)) ∧ j + 1 ≤ 48 := ⟨⟨hx, by omega⟩, by omega⟩
  have put1 : ∀ y, Fc 1 (D0 o y) (m + 2 * (j + 1)) ∧ j + 1 ≤ 48 := fun y => ⟨⟨.inr rfl, by have := (hp1 y).2; omega⟩, by omega⟩
  have put2 : ∀ y z, Fc 1 (D0 (D0 o y) z) (m + 2 * (j + 1)) ∧ j + 1 ≤ 48 := fun y z => ⟨⟨.inr rfl, by have := hp2 y z; omega⟩, by omega⟩
  rcases hx with ⟨rfl, rfl⟩ | rfl
  ·show Nx (E2 Stp.next Stp.exit Stp.fail _ _) _ _
   simp only [E2, Da6, Int.toNat_natCast, l8, K0, hh, hg1, hg2, hn]
   rw [btD (l0 hj), bt (e8 ha), bt (e8 (show c < l.length by omega)), bt (e8 (show j < l.length by omega))]
   simp only [n5]
   refine Nx.sl (fun _ => .nx ⟨(0, []), rfl, stay⟩) fun _ => Nx.sl (fun _ => Nx.sl (fun _ => .nx ⟨(1, _), rfl, put2 _ _⟩) fun _ => .nx ⟨(1, _), rfl, put1 _⟩) fun _ => Nx.sl (fun _ => .nx ⟨(1, _), rfl, put1 _⟩) fun _ => .nx ⟨(0, []), rfl, stay⟩
  ·show Nx (E3 Stp.next Stp.exit Stp.fail _ _) _ _
   simp only [E3, Da6, Int.toNat_natCast, l8, K0, hh, hg1, hg2, hn]
   rw [btD (l0 hj), bt (e8 ha), bt (e8 (show c < l.length by omega)), bt (e8 (show j < l.length by omega))]
   simp only [n5]
   refine Nx.sl (fun _ => .nx ⟨(1, o), rfl, stay⟩) fun _ => Nx.sl (fun _ => Nx.sl (fun _ => .nx ⟨(1, _), rfl, put2 _ _⟩) fun _ => .nx ⟨(1, _), rfl, put1 _⟩) fun _ => Nx.sl (fun _ => .nx ⟨(1, _), rfl, put1 _⟩) fun _ => .nx ⟨(1, o), rfl, stay⟩
 ·obtain ⟨h, o⟩ := x
  obtain ⟨⟨hx, hx2⟩, h48⟩ := hx
  simp only at hx hx2
  rcases hx with ⟨rfl, rfl⟩ | rfl
  ·refine ⟨1, ?_, rfl, ⟨.inl ⟨rfl, rfl⟩, by show 0 ≤ _; omega⟩⟩
   show E2 Stp.next Stp.exit Stp.fail _ _ = _
   simp only [E2]
   rw [bfD (by omega)]
  ·refine ⟨2, ?_, rfl, ⟨.inr rfl, by show o.length ≤ _; omega⟩⟩
   show E3 Stp.next Stp.exit Stp.fail _ _ = _
   simp only [E3]
   rw [bfD (by omega)]
theorem ee6 (l : List V3) (hl : l.length ≤ 48) (a : Nat) (ha : a < l.length) (h0 : Nat) (out : List Pln) (m : Nat) (hm : m ≤ 800000) (hf : Fc h0 out m) :
  ∃ t s, lp (Q3 ⟨(a : Int)⟩) ⟨h0, l, 0, out⟩ = (t, s) ∧ (t = s.ph + 1 ∧ Fc s.ph s.ea7 (m + 5000) ∧ s.f0 = l) := by
 refine ia0 (step := Q3 ⟨(a : Int)⟩) (mk := fun j (x : Nat × List Pln) => (⟨x.1, l, (j : Int), x.2⟩ : s6)) a (fun j x => Fc x.1 x.2 (m + 100 * j) ∧ j ≤ 48) (fun t s => t = s.ph + 1 ∧ Fc s.ph s.ea7 (m + 5000) ∧ s.f0 = l) (by omega) (fun j x hj hx => ?_) (fun j x hj hx => ?_) 0 (h0, out) ⟨hf, by omega⟩
 ·obtain ⟨h, o⟩ := x
  obtain ⟨hx, _⟩ := hx
  have hn := n8 hj (show a ≤ 4611686018427387904 by omega)
  simp only at hx
  obtain ⟨t, s, e1, e2, e3⟩ := ee5 l hl a j ha hj h o (m + 100 * j) (by omega) hx
  obtain ⟨s1, s2, s3⟩ := s
  simp only at e2 e3
  have go : Fc s1 s3 (m + 100 * (j + 1)) ∧ j + 1 ≤ 48 := ⟨e3.more (by omega), by omega⟩
  rcases hx.h with ⟨rfl, rfl⟩ | rfl
  ·show Nx (E4 Stp.next Stp.exit Stp.fail _ _) _ _
   simp only [E4, l8, l6, hn]
   rw [btD (l0 hj), e1, e2]
   rcases e3.h with ⟨rfl, rfl⟩ | rfl
   ·exact .nx ⟨(0, []), rfl, go⟩
   ·exact .nx ⟨(1, s3), rfl, go⟩
  ·show Nx (E5 Stp.next Stp.exit Stp.fail _ _) _ _
   simp only [E5, l8, l6, hn]
   rw [btD (l0 hj), e1, e2]
   rcases e3.h with ⟨rfl, rfl⟩ | rfl
   ·exact .nx ⟨(0, []), rfl, go⟩
   ·exact .nx ⟨(1, s3), rfl, go⟩
 ·obtain ⟨h, o⟩ := x
  obtain ⟨hx, h48⟩ := hx
  simp only at hx
  have h2 := hx.more (show m + 100 * j ≤ m + 5000 by omega)
  rcases hx.h with ⟨rfl, rfl⟩ | rfl
  ·refine ⟨1, ?_, rfl, h2, rfl⟩
   show E4 Stp.next Stp.exit Stp.fail _ _ = _
   simp only [E4]
   rw [bfD (by omega)]
  ·refine ⟨2, ?_, rfl, h2, rfl⟩
   show E5 Stp.next Stp.exit Stp.fail _ _ = _
   simp only [E5]
   rw [bfD (by omega)]
theorem ee7 (l : List V3) (hl : l.length ≤ 48) :
  ∃ t s, lp (la6 ⟨⟩) ⟨0, l, 0, []⟩ = (t, s) ∧ (t = s.ph + 1 ∧ Fc s.ph s.ea7 250000) := by
 refine ia0 (step := la6 ⟨⟩) (mk := fun j (x : Nat × List Pln) => (⟨x.1, l, (j : Int), x.2⟩ : v7)) l.length (fun j x => Fc x.1 x.2 (5000 * j) ∧ j ≤ 48) (fun t s => t = s.ph + 1 ∧ Fc s.ph s.ea7 250000) (by omega) (fun j x hj hx => ?_) (fun j x hj hx => ?_) 0 (0, []) ⟨⟨.inl ⟨rfl, rfl⟩, Nat.le_refl _⟩, by omega⟩
 ·obtain ⟨h, o⟩ := x
  obtain ⟨hx, _⟩ := hx
  have hn := n8 hj (show l.length ≤ 4611686018427387904 by omega)
  simp only at hx
  obtain ⟨t, s, e1, e2, e3, e4⟩ := ee6 l hl j hj h o (5000 * j) (by omega) hx
  obtain ⟨s1, s2, s3, s4⟩ := s
  simp only at e2 e3 e4
  subst e4
  have go : Fc s1 s4 (5000 * (j + 1)) ∧ j + 1 ≤ 48 := ⟨e3.more (by omega), by omega⟩
  rcases hx.h with ⟨rfl, rfl⟩ | rfl
  ·show Nx (E6 Stp.next Stp.exit Stp.fail ⟨⟩ _) _ _
   simp only [E6, l8, l6, hn]
   rw [btD (l0 hj), e1, e2]
   rcases e3.h with ⟨rfl, rfl⟩ | rfl
   ·exact .nx ⟨(0, []), rfl, go⟩
   ·exact .nx ⟨(1, s4), rfl, go⟩
  ·show Nx (E7 Stp.next Stp.exit Stp.fail ⟨⟩ _) _ _
   simp only [E7, l8, l6, hn]
   rw [btD (l0 hj), e1, e2]
   rcases e3.h with ⟨rfl, rfl⟩ | rfl
   ·exact .nx ⟨(0, []), rfl, go⟩
   ·exact .nx ⟨(1, s4), rfl, go⟩
 ·obtain ⟨h, o⟩ := x
  obtain ⟨hx, h48⟩ := hx
  simp only at hx
  have h2 := hx.more (show 5000 * j ≤ 250000 by omega)
  rcases hx.h with ⟨rfl, rfl⟩ | rfl
  ·refine ⟨1, ?_, rfl, h2⟩
   show E6 Stp.next Stp.exit Stp.fail ⟨⟩ _ = _
   simp only [E6]
   rw [bfD (by omega)]
  ·refine ⟨2, ?_, rfl, h2⟩
   show E7 Stp.next Stp.exit Stp.fail ⟨⟩ _ = _
   simp only [E7]
   rw [bfD (by omega)]
theorem Sd4 (l : List Pln) (n : Int) : (two (r1L tP) r1I).rd (.tup [eL tP l, i n], []) = some (l, n) := by
 have h : (r1L tP).rd [] (eL tP l) = some l := by
  show Bool.rec (motive := fun _ => Option (List Pln)) none (some (rt tP l)) (Bool.and (Nat.beq tP.es tP.es) (okE tP l)) = _
  rw [l8, K0, Nat.beq_refl]
  rfl
 simp only [two, h]
 rfl
theorem jd6 (l : List V3) (hl : l.length ≤ 48) : Rd (two (r1L tP) r1I) (ua6 l) (fun r => r.1.length ≤ 250000) := by
 obtain ⟨t, s, e1, e2, e3⟩ := ee7 l hl
 unfold ua6
 simp only [l8, l6, K0, Mc9 l (show l.length ≤ 1000000000 by omega), n5]
 refine Rd.sl (fun _ => ⟨_, ([], Qa4 l), rfl, rfl, Nat.zero_le _⟩) fun _ => ?_
 rw [e1, e2]
 obtain ⟨s1, s2, s3, s4⟩ := s
 simp only at e3 ⊢
 rcases e3.h with ⟨rfl, rfl⟩ | rfl
 ·exact ⟨_, ([], 0), rfl, rfl, Nat.zero_le _⟩
 ·exact ⟨_, (s4, 0), rfl, Sd4 s4 0, e3.l⟩
theorem zd7 (l : List V3) (hl : l.length ≤ 48) : ua7 l = true := (jd6 l hl).g
theorem ee8 (l : List V3) (hl : l.length ≤ 48) : (Qa6 l).1.length ≤ 250000 := (jd6 l hl).p
def phV (out : List V3) : Nat := match out with
 | [] => 0
 | _ :: _ => 1
theorem ee9 (out : List V3) (x : V3) : phV (out ++ [x]) = 1 := by cases out <;> rfl
theorem jd7 (l : List V3) (x1 x2 x3 : Int) : app (bL tV l) [[i x1, i x2, i x3]] = bL tV (l ++ [⟨x1, x2, x3⟩]) := Ja9 tV l [⟨x1, x2, x3⟩]
theorem Ce4 {l : List V3} {m : Nat} (h : m < l.length) : (((Nat.blt (0 + m) (len (bL tV l))) && (Nat.ble (0 + 3) (len (m0 (bL tV l) (0 + m))))) && (Q6 [(CK.int .i64), (CK.int .i64), (CK.int .i64)] (g9 (m0 (bL tV l) (0 + m)) 0))) = true := by
 rw [Nat.zero_add, ca6 tV h, K1, show Nat.blt m l.length = true from by rw [Nat.blt_eq]; exact h]
 rfl
theorem Ce5 {l : List V3} {m : Nat} (h : m < l.length) : (((Nat.blt (0 + m) (len (bL tV l))) && (Nat.ble (2 + 1) (len (m0 (bL tV l) (0 + m))))) && (Q6 [(CK.int .i64)] (g9 (m0 (bL tV l) (0 + m)) 2))) = true := by
 rw [Nat.zero_add, ca6 tV h, K1, show Nat.blt m l.length = true from by rw [Nat.blt_eq]; exact h]
 rfl
theorem Ce6 {n : Nat} {l : List V3} (hn : l.length = n) (h : n ≤ 1000000000) : (Nat.beq n (len (bL tV l)) && Nat.ble ((n + 1) * 24) room) = true := by
 subst hn
 rw [K1, Nat.beq_refl, Bool.true_and, Nat.ble_eq]
 unfold room
 omega
theorem fe0 (x : List Int) (N : Nat) (h4 : 4 ≤ N) (h8 : N ≤ 8) (j0 : Int) (hj0 : 0 ≤ j0 ∧ j0 ≤ 10) :
  ∃ idx out, lp (Aa3 ⟨(N : Int)⟩) ⟨0, 0, x, j0, 0, []⟩ = (2, ⟨1, (N : Int), x, idx, N, bL tV out⟩) ∧ out.length = N := by
 have key := ia0 (step := Aa3 ⟨(N : Int)⟩) (mk := fun j (a : Int × List V3) => (⟨phV a.2, (j : Int), x, a.1, a.2.length, bL tV a.2⟩ : A1)) N
  (fun j a => a.2.length = j ∧ 0 ≤ a.1 ∧ a.1 ≤ 10 + 4 * j ∧ j ≤ N) (fun t s => t = 2 ∧ ∃ idx out, s = ⟨1, (N : Int), x, idx, N, bL tV out⟩ ∧ out.length = N) (by omega) (fun j a hj ha => ?_) (fun j a hj ha => ?_) 0 (j0, []) ⟨rfl, hj0.1, by omega, by omega⟩
 ·obtain ⟨t, s, e1, rfl, idx, out, e2, e3⟩ := key
  exact ⟨idx, out, by rw [← e2]; exact e1, e3⟩
 ·obtain ⟨at0, out⟩ := a
  obtain ⟨ho, ha1, ha2, _⟩ := ha
  simp only at ho ha1 ha2
  have hn := n8 hj (show N ≤ 4611686018427387904 by omega)
  obtain ⟨v1, j1, d1, _, _, c1, b1⟩ := X7 17 x at0 ha1 (by omega) (by omega) (by omega)
  obtain ⟨v2, j2, d2, _, _, c2, b2⟩ := X7 17 x j1 (by omega) (by omega) (by omega) (by omega)
  obtain ⟨v3, j3, d3, _, _, c3, b3⟩ := X7 17 x j2 (by omega) (by omega) (by omega) (by omega)
  obtain ⟨v4, j4, d4, _, _, c4, b4⟩ := X7 6 x j3 (by omega) (by omega) (by omega) (by omega)
  have leaf : ∀ (E : Nat → Prop) (x1 x2 x3 : Int), Nx (.next (⟨1, ((j + 1 : Nat) : Int), x, j4, j + 1, bL tV (out ++ [⟨x1, x2, x3⟩])⟩ : A1)) E
    (fun s => ∃ a' : Int × List V3, s = ⟨phV a'.2, ((j + 1 : Nat) : Int), x, a'.1, a'.2.length, bL tV a'.2⟩ ∧ a'.2.length = j + 1 ∧ 0 ≤ a'.1 ∧ a'.1 ≤ 10 + 4 * ((j + 1 : Nat) : Int) ∧ j + 1 ≤ N) := fun E x1 x2 x3 => by
   have hl : (out ++ [(⟨x1, x2, x3⟩ : V3)]).length = j + 1 := by simp [ho]
   exact .nx ⟨(j4, out ++ [⟨x1, x2, x3⟩]), by simp only [ee9, hl], hl, by show 0 ≤ j4; omega, by show j4 ≤ _; omega, by omega⟩
  cases out with
  | nil =>
   have hj0' : j = 0 := by simpa using ho.symm
   subst hj0'
   show Nx (la7 Stp.next Stp.exit Stp.fail _ _) _ _
   simp only [la7, l8, l6, d1, d2, d3, d4, hn]
   rw [btD (l0 hj)]
   have f1 : decide (((0 : Nat) : Int) > 1) = false := rfl
   have f2 : decide (((0 : Nat) : Int) > 0) = false := rfl
   have f3 : decide (((0 : Nat) : Int) > 2) = false := rfl
   have lf : ∀ (E : Nat → Prop) (x1 x2 x3 : Int), Nx (.next (⟨1, ((0 + 1 : Nat) : Int), x, j4, 1, [[i x1, i x2, i x3]]⟩ : A1)) E _ := leaf
   simp only [f1, f2, f3, ca8, Nat.beq_refl, Bool.and_true, n5]
   refine Nx.sl (fun _ => ?_) (fun _ => ?_) <;> refine Nx.sl (fun _ => ?_) (fun _ => ?_)
   all_goals first
    | exact lf _ _ _ _
    | (refine Nx.sl (fun _ => ?_) (fun _ => ?_) <;> exact lf _ _ _ _)
  | cons o os =>
   have h1 : 1 ≤ j := by simp only [List.length_cons] at ho; omega
   generalize hO : o :: os = O at *
   have hph : phV O = 1 := by subst hO; rfl
   have w1 : W ((j : Int) - 1) = ((j - 1 : Nat) : Int) := by rw [Y0 (by omega) (by omega)]; omega
   have i1 : inB ((j - 1 : Nat) : Int) j = true := e8 (by omega)
   have r1 := Ce4 (l := O) (m := j - 1) (by omega)
   have r1' := Ce5 (l := O) (m := j - 1) (by omega)
   have rr := Ce6 ho (by omega)
   have f2 : ∀ {inst : Decidable ((j : Int) > 0)}, @decide ((j : Int) > 0) inst = true := decide_eq_true (by omega)
   show Nx (sel (Nat.beq (phV O) 1) (I9 Stp.next Stp.exit Stp.fail _ _) _) _ _
   rw [hph]
   show Nx (I9 Stp.next Stp.exit Stp.fail _ _) _ _
   by_cases h2 : 2 ≤ j
   ·have w2 : W ((j : Int) - 2) = ((j - 2 : Nat) : Int) := by rw [Y0 (by omega) (by omega)]; omega
    have i2 : inB ((j - 2 : Nat) : Int) j = true := e8 (by omega)
    have r2 := Ce4 (l := O) (m := j - 2) (by omega)
    simp only [I9, l8, l6, d1, d2, d3, d4, hn, ho, w1, w2, i1, i2, Int.toNat_natCast, r1, r1', r2, rr, jd7]
    rw [btD (l0 hj)]
    simp only [Nat.beq_refl, Bool.and_true, n5]
    repeat' (first | exact leaf _ _ _ _ | refine Nx.sl (fun _ => ?_) (fun _ => ?_))
   ·have hj1 : j = 1 := by omega
    subst hj1
    simp only [I9, l8, l6, d1, d2, d3, d4, hn, ho, w1, i1, Int.toNat_natCast, r1, r1', rr, jd7]
    have f1 : decide (((1 : Nat) : Int) > 1) = false := rfl
    rw [btD (l0 hj)]
    simp only [f1, ca8, Nat.beq_refl, Bool.and_true, n5]
    repeat' (first | exact leaf _ _ _ _ | refine Nx.sl (fun _ => ?_) (fun _ => ?_))
 ·obtain ⟨at0, out⟩ := a
  obtain ⟨ho, ha1, ha2, hjN⟩ := ha
  simp only at ho ha1 ha2
  have hj' : j = N := by omega
  subst hj'
  cases out with
  | nil => simp only [List.length_nil] at ho; omega
  | cons o os =>
   refine ⟨2, ?_, rfl, at0, o :: os, by rw [ho]; rfl, ho⟩
   show I9 Stp.next Stp.exit Stp.fail _ _ = _
   simp only [I9]
   rw [bfD (by omega)]
theorem Sd5 {l : List V3} {n : Nat} {r : List (List b7)} {P : List V3 → Prop} (hn : n = l.length) (hr : r = bL tV l) (h : P l) : Rd (one (r1L tV)) (some (.sl 0 0 n 0, [⟨36, 3, r, true, false, 0⟩])) P := by
 subst hn hr
 refine ⟨_, l, rfl, ?_, h⟩
 show Bool.rec (motive := fun _ => Option (List V3)) none (some (slR tV (bL tV l) 0 l.length)) (Bool.and true (okS tV (bL tV l) 0 l.length)) = _
 rw [zb0, zb1]
 rfl
theorem Nc0 (x : List Int) : Rd (one (r1L tV)) (Ha6 x) (fun r => 4 ≤ r.length ∧ r.length ≤ 8) := by
 obtain ⟨v, j, e1, a1, b1, c1, d1⟩ := X7 5 x 0 (by omega) (by omega) (by omega) (by omega)
 have hN : W (4 + v) = (((4 + v).toNat : Nat) : Int) := by rw [Y0 (by omega) (by omega)]; omega
 obtain ⟨idx, out, e2, e3⟩ := fe0 x (4 + v).toNat (by omega) (by omega) j (by omega)
 unfold Ha6
 simp only [l8, l6, e1, hN, e2]
 have h4 : 4 ≤ (4 + v).toNat := by omega
 have h8 : (4 + v).toNat ≤ 8 := by omega
 generalize (4 + v).toNat = N at *
 have s1 : lsL tV N (fun k => m0 (bL tV out) (0 + k)) = out := by rw [← e3]; exact zb0 tV out
 have s2 : okL tV N (fun k => m0 (bL tV out) (0 + k)) = true := by rw [← e3]; exact zb1 tV out
 have gf : La7 out = true := td4 out (by omega)
 rw [s1, s2, gf]
 simp only [Nat.beq_refl, Bool.and_true, n5, show Nat.beq 2 1 = false from rfl, ca8]
 refine Rd.sl (fun _ => ?_) fun _ => Sd5 e3.symm rfl ⟨by omega, by omega⟩
 have i0 : inB 0 N = true := e8 (j := 0) (by omega)
 have i1 : inB 1 N = true := e8 (j := 1) (by omega)
 have i2 : inB 2 N = true := e8 (j := 2) (by omega)
 have i3 : inB 3 N = true := e8 (j := 3) (by omega)
 have sp : ∀ (v : V3) (x1 x2 x3 : Int), T6 (tV.row v) 0 [i x1, i x2, i x3] = tV.row ⟨x1, x2, x3⟩ := fun _ _ _ _ => rfl
 have rl : ∀ v : V3, Nat.ble (0 + 3) (len (tV.row v)) = true := fun _ => rfl
 have ck : ∀ v : V3, Q6 [(CK.int .i64), (CK.int .i64), (CK.int .i64)] (g9 (tV.row v) 0) = true := fun _ => rfl
 have gr : ∀ (l : List V3) (k : Nat), l.length = N → k < 4 → m0 (bL tV l) k = tV.row (gL tV l k) := fun l k hl hk => ca6 tV (by omega)
 have bl : ∀ (l : List V3) (k : Nat), l.length = N → k < 4 → Nat.blt k (len (bL tV l)) = true := fun l k hl hk => by rw [K1, Nat.blt_eq]; omega
 have ls : ∀ (l : List V3) (k : Nat) (v : V3), l.length = N → (l.set k v).length = N := fun l k v hl => by rw [List.length_set]; exact hl
 rw [gr out 0 e3 (by omega), gr out 1 e3 (by omega)]
 simp only [sp, zb2]
 rw [gr _ 2 (ls out 1 _ e3) (by omega)]
 simp only [sp, zb2]
 rw [gr _ 3 (ls _ 2 _ (ls out 1 _ e3)) (by omega)]
 simp only [sp, zb2, rl, ck, i0, i1, i2, i3, bl out 0 e3 (by omega), bl out 1 e3 (by omega), bl _ 2 (ls out 1 _ e3) (by omega), bl _ 3 (ls _ 2 _ (ls out 1 _ e3)) (by omega), Bool.and_true, n5]
 exact Sd5 (by simp only [List.length_set]; omega) rfl (by simp only [List.length_set]; omega)
theorem jd8 (x : List Int) : Ha7 x = true := (Nc0 x).g
theorem jd9 (x : List Int) : 4 ≤ (L7 x).length ∧ (L7 x).length ≤ 8 := (Nc0 x).p
end Go.Ev.Ce
namespace Go.Ev.Ce
open Go Go.Ev Go.Ev.L Go.Proofs
theorem Vc9 {l : List Pln} {P : List Pln → Prop} (h : P l) : Rd (one (r1L tP)) (some (eL tP l, [])) P := ⟨_, l, rfl, yd4 tP l, h⟩
theorem zd8 (x : List Int) : Rd (one (r1L tP)) (Ca4 x) (fun r => r.length ≤ 250000) := by
 obtain ⟨v1, j1, e1, a1, b1, c1, d1⟩ := X7 4 x 0 (by omega) (by omega) (by omega) (by omega)
 obtain ⟨w1, w2, w3, j2, e2, p1, p2, p3, c2, d2⟩ := Cb5 6 x j1 (by omega) (by omega) (by omega) (by omega)
 obtain ⟨v3, j3, e3, a3, b3, c3, d3⟩ := X7 6 x j2 (by omega) (by omega) (by omega) (by omega)
 obtain ⟨v4, j4, e4, a4, b4, c4, d4⟩ := X7 6 x j3 (by omega) (by omega) (by omega) (by omega)
 obtain ⟨v5, j5, e5, a5, b5, c5, d5⟩ := X7 6 x j4 (by omega) (by omega) (by omega) (by omega)
 have hin : inB (if 7 < (x.length : Int) then 7 else (x.length : Int)) (x.length + 1) = true := by
  rw [Rc0]
  apply decide_eq_true
  split <;> omega
 have hok : ∀ n m, okL tI n (fun k => (fun k => tI.row (gL tI x k)) (m + k)) = true := fun n m => pb9 tI (f := fun k => gL tI x (m + k)) fun _ _ => rfl
 unfold Ca4
 simp only [l8, l6, K0, e1, e2, e3, e4, e5, Qd3, Qd4, hin, hok, Na8, Vc6, jd8, Nat.beq_refl, Bool.and_true, n5]
 generalize hL : lsL tI _ _ = L
 generalize hB : xc2 _ _ = B
 have hB6 : B.length = 6 := by rw [← hB]; rfl
 have hl6 : len (bL tP B) = 6 := by rw [K1, hB6]
 have ea : app [] (bL tP B) = bL tP B := rfl
 have es : ∀ q : Pln, slR tP (bL tP (B ++ [q])) 0 (0 + 6 + 1) = B ++ [q] := fun q => by
  have := zb0 tP (B ++ [q])
  rw [List.length_append, hB6] at this
  exact this
 have eo : ∀ q : Pln, okS tP (bL tP (B ++ [q])) 0 (0 + 6 + 1) = true := fun q => by
  have := zb1 tP (B ++ [q])
  rw [List.length_append, hB6] at this
  exact this
 have gF : ∀ q : Pln, Ba7 (B ++ [q]) = true := fun q => yd8 (by rw [List.length_append, hB6]; exact (by decide : 6 + 1 ≤ 1000000000))
 have q1 : Nat.ble ((0 + 6) * 32) room = true := X5 (by omega)
 have q2 : Nat.ble (((0 + 6) + 1) * 32) room = true := X5 (by omega)
 have q3 : Nat.beq (0 + 6) 6 = true := rfl
 have hp := jd9 L
 have gf : ua7 (L7 L) = true := zd7 _ (by omega)
 have pf := ee8 (L7 L) (by omega)
 simp only [hl6, ea, Cb6, es, eo, gF, q1, q2, q3, Bool.and_self, gf, n5, show Nat.beq 6 0 = false from rfl, ca8]
 have box : Rd (one (r1L tP)) (some (eL tP B, [])) (fun r => r.length ≤ 250000) := Vc9 (by rw [hB6]; omega)
 have fcs : Rd (one (r1L tP)) (some (eL tP (Qa6 (L7 L)).1, [])) (fun r => r.length ≤ 250000) := Vc9 pf
 exact Rd.sl (fun _ => Rd.sl (fun _ => Vc8 (by rw [List.length_append, hB6]; rfl) rfl (by rw [List.length_append, hB6]; exact (by decide : 6 + 1 ≤ 250000))) fun _ => Rd.sl (fun _ => Rd.sl (fun _ => fcs) fun _ => box) fun _ => box) fun _ => Rd.sl (fun _ => Rd.sl (fun _ => fcs) fun _ => box) fun _ => box
theorem re5 (x : List Int) : Ob5 x = true := (zd8 x).g
theorem re6 (x : List Int) : (bb7 x).length ≤ 250000 := (zd8 x).p
theorem oc0 {l : List Pln} {k : Nat} (h : k < l.length) : ldR tP (bL tP l) (0 + k) = true := by rw [Nat.zero_add]; exact qd2 tP h
theorem Wb6 {l : List Pln} {k : Nat} (h : k < l.length) : rdR tP (bL tP l) (0 + k) = gL tP l k := by rw [Nat.zero_add]; exact qd1 tP h
theorem re7 {l : List Pln} {n : Nat} {r : List (List b7)} {P : List Pln → Prop} (hn : n ≤ l.length) (hr : r = bL tP l) (h : P (l.take n)) : Rd (one (r1L tP)) (some (.sl 0 0 n 0, [⟨50, 4, r, true, false, 0⟩])) P := by
 subst hr
 have e1 : slR tP (bL tP l) 0 n = l.take n := sc3 tP (by rw [List.length_take]; omega) fun k hk => by
  rw [Nat.zero_add, ca6 tP (by omega)]
  congr 1
  simp [gL, List.getD_eq_getElem?_getD, List.getElem?_take, hk]
 have e2 : okS tP (bL tP l) 0 n = true := pb9 tP (f := fun k => gL tP l k) fun k hk => by rw [Nat.zero_add, ca6 tP (by omega)]
 refine ⟨_, l.take n, rfl, ?_, h⟩
 show Bool.rec (motive := fun _ => Option (List Pln)) none (some (slR tP (bL tP l) 0 n)) (Bool.and true (okS tP (bL tP l) 0 n)) = _
 rw [e1, e2]
 rfl
end Go.Ev.Ce
section
namespace Go.Ev.Ce
open Go Go.Ev Go.Ev.L Go.Proofs
set_option maxRecDepth 100000
structure Na2 where
 ma5 : Int
 ma6 : Int
 ma7 : Int
 db2 : Int
 j6 : List Pt
noncomputable def Cb7 : List (Nat × Sum) := [(102, hb6)]
theorem mc1 : l5 prog G Cb7 := ⟨rb1, trivial⟩
structure pa4 where
 Bd1 : List Pt
 is8 : Int
 j6 : List Pt
 G9 : Int
 H4 : Int
 H5 : Int
 H6 : Int
structure L8 where
 is4 : Int
 is9 : Int
noncomputable def dc9 (p : pa4) (s : L8) : St := ⟨(.unk :: (.unk :: ((.ptr 1 0 0 0) :: (.unk :: ((i s.is4) :: (.unk :: (.unk :: ((eL tX p.Bd1) :: ((i p.is8) :: ((i s.is9) :: (ra 12 []))))))))))), [⟨0, 1, [[(eL tX p.j6)]], true, false, 0⟩, ⟨0, 4, [[(i p.G9), (i p.H4), (i p.H5), (i p.H6)]], true, false, 0⟩]⟩
noncomputable def ia1 {α : Type} (k : L8 → α) (e : Nat → α) (z : α) (p : pa4) (s : L8) : α := let t1 := (na1 (⟨(⟨p.G9, p.H4, p.H5⟩ : V3), p.H6⟩ : Pln) (gL tX p.Bd1 s.is9.toNat)); (sl (decide (s.is9 < p.is8)) (sl (inB s.is9 (List.length p.Bd1)) (sl (t1 == 0) (k ⟨(W (s.is4 + 1)), (W (s.is9 + 1))⟩) (k ⟨s.is4, (W (s.is9 + 1))⟩)) z) (e 1))
noncomputable def ma1 (p : pa4) (s : L8) : Stp L8 := ia1 .next .exit .fail p s
noncomputable def Ta6 : Lo pa4 L8 := ⟨En Cb7, 1, je0, [1, 1, 0, 1, 4, 4], [2, 4, 7, 8, 9], .p, [⟨((.s (.o .unk)) :: ((.s (.o .unk)) :: ((.s (.o (.ptr 1 0 0 0))) :: ((.s (.o .unk)) :: ((.s (.o (.int .i64))) :: ((.s (.o .unk)) :: ((.s (.o .unk)) :: ((.s (.c 4 (nL tX))) :: ((.s (.o (.int .i64))) :: ((.s (.o (.int .i64))) :: (ru2 12 []))))))))))), [⟨0, 1, true, (some [[(.c 4 (nL tX))]])⟩, ⟨0, 4, true, (some [[(.o (.int .i64)), (.o (.int .i64)), (.o (.int .i64)), (.o (.int .i64))]])⟩], fun a H => (⟨(rL tX (slT a 7)), (toI (slT a 8)), (rL tX (slT (rwT (elT H 0) 0) 0)), (toI (slT (rwT (elT H 1) 0) 0)), (toI (slT (rwT (elT H 1) 0) 1)), (toI (slT (rwT (elT H 1) 0) 2)), (toI (slT (rwT (elT H 1) 0) 3))⟩, ⟨(toI (slT a 4)), (toI (slT a 9))⟩)⟩], ma1, [(some 0, fun p s => ⟨(.unk :: (.unk :: ((.ptr 1 0 0 0) :: (.unk :: ((i s.is4) :: (.unk :: (.unk :: ((eL tX p.Bd1) :: ((i p.is8) :: ((i s.is9) :: ((b (decide (s.is9 < p.is8))) :: (ra 11 [])))))))))))), [⟨0, 1, [[(eL tX p.j6)]], true, false, 0⟩, ⟨0, 4, [[(i p.G9), (i p.H4), (i p.H5), (i p.H6)]], true, false, 0⟩]⟩)], dc9⟩
theorem ec0 : Ta6.Ok := Lo.ok [] (by kernel_rfl) .nil rfl (.cons (fun a H => by kernel_rfl) .nil) fun p s => (.of @ia1 (fun F _ _ _ _ _ => by unfold ia1; (repeat' apply n7 (f := F)) <;> rfl) (by kernel_rfl))
structure qa3 where
 alt : Nat
 bs0 : Bool
 j6 : List Pt
noncomputable def qa4 {α : Type} (kk : qa3 → α) (x : Na2) : α := let t1 := (lp (ma1 (⟨(rt tX x.j6), (↑(List.length x.j6) : Int), (rt tX x.j6), x.ma5, x.ma6, x.ma7, x.db2⟩ : pa4)) (⟨0, 0⟩ : L8)); (sl ((cnE tX x.j6) && ((cnE tX x.j6) && true)) (sl (Nat.beq t1.1 1) (kk ⟨1, (decide (t1.2.is4 < 3)), (rt tX x.j6)⟩) (kk ⟨0, false, []⟩)) (kk ⟨0, false, []⟩))
noncomputable def ja4 (x : Na2) : qa3 := qa4 (fun r => r) x
noncomputable def bb9 (x : Na2) (r : qa3) : DT (b7 × List b8) := (.ite (Nat.beq r.alt 1) (.ret ((b r.bs0), [⟨0, 1, [[(eL tX r.j6)]], true, false, 0⟩])) .fail)
theorem Hc2 {α β : Type} (F : α → β) (kk : qa3 → α) (x : Na2) : F (qa4 kk x) = qa4 (fun r => F (kk r)) x := by unfold qa4; (repeat' apply n7 (f := F)) <;> rfl
noncomputable def kb9 : Sum := Ya9 ⟨[(.agg [(.o (.int .i64)), (.o (.int .i64)), (.o (.int .i64)), (.o (.int .i64))]), (.s (.o (.ptr 0 0 0 0)))], [⟨0, 1, true, (some [[(.c 4 (nL tX))]])⟩], fun a H => (⟨(toI (slT (cellsOf (slT a 0)) 0)), (toI (slT (cellsOf (slT a 0)) 1)), (toI (slT (cellsOf (slT a 0)) 2)), (toI (slT (cellsOf (slT a 0)) 3)), (rL tX (slT (rwT (elT H 0) 0) 0))⟩, ())⟩ (fun x => bb9 x (ja4 x))
theorem Cb8 : j7 prog G 101 kb9 := R3 (enc := fun x => ⟨[(.agg [(i x.ma5), (i x.ma6), (i x.ma7), (i x.db2)]), (.ptr 0 0 0 0)], [⟨0, 1, [[(eL tX x.j6)]], true, false, 0⟩]⟩) (fun a H => by kernel_rfl) (bd Ie1 mc1) fun x => Ba5 (.s .p (.s .p (.s (.s .p (.b (.u Ta6.ls))) .p))) [Ta6.pr] (by kernel_rfl) (.cons ec0 .nil) (Eq.trans (b := qa4 (fun r => (bb9 x r).run) x) (by kernel_rfl) (Hc2 (fun r => (bb9 x r).run) (fun r => r) x).symm)
structure S5 where
 ns0 : Nat
 eh0 : List (List b7)
 r5 : List Pt
noncomputable def ua9 : List (Nat × Sum) := [(101, kb9)]
theorem Wa4 : l5 prog G ua9 := ⟨Cb8, trivial⟩
structure G6 where
 ns0 : Nat
 is7 : Int
 eh0 : List (List b7)
structure o4 where
 is8 : Int
 r5 : List Pt
noncomputable def Ta7 (p : G6) (s : o4) : St := ⟨((.sl 0 0 p.ns0 0) :: ((.fn 101 [(.ptr 1 0 0 0)]) :: (ra 5 ((i p.is7) :: ((i s.is8) :: (ra 10 [])))))), [⟨50, 4, p.eh0, true, false, 0⟩, ⟨0, 1, [[(eL tX s.r5)]], true, false, 0⟩]⟩
noncomputable def C0 {α : Type} (k : o4 → α) (e : Nat → α) (z : α) (p : G6) (s : o4) : α := let t1 := (ja4 ⟨(rdR tP p.eh0 (0 + s.is8.toNat)).n.x, (rdR tP p.eh0 (0 + s.is8.toNat)).n.y, (rdR tP p.eh0 (0 + s.is8.toNat)).n.z, (rdR tP p.eh0 (0 + s.is8.toNat)).b, (rt tX s.r5)⟩); (sl (decide (s.is8 < p.is7)) (sl (inB s.is8 p.ns0) (sl (ldR tP p.eh0 (0 + s.is8.toNat)) (sl ((cnE tX s.r5) && true) (sl (Nat.beq t1.alt 1) (sl t1.bs0 (e 1) (k ⟨(W (s.is8 + 1)), t1.j6⟩)) z) z) z) z) (e 2))
noncomputable def E8 (p : G6) (s : o4) : Stp o4 := C0 .next .exit .fail p s
noncomputable def ba1 : Lo G6 o4 := ⟨En ua9, 2, xd7, [1, 0, 1, 4, 4], [0, 1, 7, 8], .p, [⟨((.s (.o (.sl 0 0 (some 0) none))) :: ((.fn 101 [(.o (.ptr 1 0 0 0))]) :: (ru2 5 ((.s (.o (.int .i64))) :: ((.s (.o (.int .i64))) :: (ru2 10 [])))))), [⟨50, 4, true, none⟩, ⟨0, 1, true, (some [[(.c 4 (nL tX))]])⟩], fun a H => (⟨(slN (slT a 0)), (toI (slT a 7)), (elT H 0)⟩, ⟨(toI (slT a 8)), (rL tX (slT (rwT (elT H 1) 0) 0))⟩)⟩], E8, [(none, fun p s => let t1 := (ja4 ⟨(rdR tP p.eh0 (0 + s.is8.toNat)).n.x, (rdR tP p.eh0 (0 + s.is8.toNat)).n.y, (rdR tP p.eh0 (0 + s.is8.toNat)).n.z, (rdR tP p.eh0 (0 + s.is8.toNat)).b, (rt tX s.r5)⟩); ⟨[(i s.is8)], [⟨50, 4, p.eh0, true, false, 0⟩, ⟨0, 1, [[(eL tX t1.j6)]], true, false, 0⟩]⟩), (some 0, fun p s => ⟨((.sl 0 0 p.ns0 0) :: ((.fn 101 [(.ptr 1 0 0 0)]) :: (ra 5 ((i p.is7) :: ((i s.is8) :: ((b (decide (s.is8 < p.is7))) :: (ra 9 []))))))), [⟨50, 4, p.eh0, true, false, 0⟩, ⟨0, 1, [[(eL tX s.r5)]], true, false, 0⟩]⟩)], Ta7⟩
theorem Ta8 : ba1.Ok := Lo.ok [] (by kernel_rfl) .nil rfl (.cons (fun a H => by kernel_rfl) .nil) fun p s => (.of @C0 (fun F _ _ _ _ _ => by unfold C0; (repeat' apply n7 (f := F)) <;> rfl) (by kernel_rfl))
structure S6 where
 alt : Nat
 is0 : Int
 r5 : List Pt
noncomputable def D1 {α : Type} (kk : S6 → α) (x : S5) : α := let t1 := (lp (E8 (⟨x.ns0, (↑x.ns0 : Int), x.eh0⟩ : G6)) (⟨0, (rt tX x.r5)⟩ : o4)); let t2 := (ja4 ⟨(rdR tP x.eh0 (0 + t1.2.is8.toNat)).n.x, (rdR tP x.eh0 (0 + t1.2.is8.toNat)).n.y, (rdR tP x.eh0 (0 + t1.2.is8.toNat)).n.z, (rdR tP x.eh0 (0 + t1.2.is8.toNat)).b, (rt tX t1.2.r5)⟩); (sl ((cnE tX x.r5) && true) (sl (Nat.beq t1.1 1) (kk ⟨1, t1.2.is8, t2.j6⟩) (sl (Nat.beq t1.1 2) (kk ⟨1, (-1), t1.2.r5⟩) (kk ⟨0, 0, []⟩))) (kk ⟨0, 0, []⟩))
noncomputable def S7 (x : S5) : S6 := D1 (fun r => r) x
noncomputable def ea3 (x : S5) (r : S6) : DT (b7 × List b8) := (.ite (Nat.beq r.alt 1) (.ret ((i r.is0), [⟨50, 4, x.eh0, true, false, 0⟩, ⟨0, 1, [[(eL tX r.r5)]], true, false, 0⟩])) .fail)
theorem eb8 {α β : Type} (F : α → β) (kk : S6 → α) (x : S5) : F (D1 kk x) = D1 (fun r => F (kk r)) x := by unfold D1; (repeat' apply n7 (f := F)) <;> rfl
noncomputable def wa9 : Sum := Ya9 ⟨[(.s (.o (.sl 0 0 (some 0) none))), (.fn 101 [(.o (.ptr 1 0 0 0))])], [⟨50, 4, true, none⟩, ⟨0, 1, true, (some [[(.c 4 (nL tX))]])⟩], fun a H => (⟨(slN (slT a 0)), (elT H 0), (rL tX (slT (rwT (elT H 1) 0) 0))⟩, ())⟩ (fun x => ea3 x (S7 x))
theorem cb0 : j7 prog G 163 wa9 := R3 (enc := fun x => ⟨[(.sl 0 0 x.ns0 0), (.fn 101 [(.ptr 1 0 0 0)])], [⟨50, 4, x.eh0, true, false, 0⟩, ⟨0, 1, [[(eL tX x.r5)]], true, false, 0⟩]⟩) (fun a H => by kernel_rfl) (bd pe5 Wa4) fun x => Ba5 (.s .p (.s (.s .p (.b (.u ba1.ls))) .p)) [ba1.pr] (by kernel_rfl) (.cons Ta8 .nil) (Eq.trans (b := D1 (fun r => (ea3 x r).run) x) (by kernel_rfl) (eb8 (fun r => (ea3 x r).run) (fun r => r) x).symm)
structure S8 where
 ns0 : Nat
 eh0 : List (List b7)
 r5 : List Pt
noncomputable def va0 : List (Nat × Sum) := [(163, wa9), (101, kb9)]
theorem Wa5 : l5 prog G va0 := ⟨cb0, Cb8, trivial⟩
structure G7 where
 ns0 : Nat
structure p7 where
 is5 : Int
 is6 : Int
 eh0 : List (List b7)
 r5 : List Pt
noncomputable def Ta9 (p : G7) (s : p7) : St := ⟨((.sl 0 0 p.ns0 0) :: ((.fn 101 [(.ptr 1 0 0 0)]) :: (ra 3 ((i s.is5) :: ((i s.is6) :: (ra 35 [])))))), [⟨50, 4, s.eh0, true, false, 0⟩, ⟨0, 1, [[(eL tX s.r5)]], true, false, 0⟩]⟩
noncomputable def C3 {α : Type} (k : p7 → α) (e : Nat → α) (z : α) (p : G7) (s : p7) : α := let t1 := (ja4 ⟨(rdR tP s.eh0 (0 + s.is6.toNat)).n.x, (rdR tP s.eh0 (0 + s.is6.toNat)).n.y, (rdR tP s.eh0 (0 + s.is6.toNat)).n.z, (rdR tP s.eh0 (0 + s.is6.toNat)).b, (rt tX s.r5)⟩); (sl (decide (s.is6 < (↑p.ns0 : Int))) (sl (inB s.is6 p.ns0) (sl (ldR tP s.eh0 (0 + s.is6.toNat)) (sl ((cnE tX s.r5) && true) (sl (Nat.beq t1.alt 1) (sl (!t1.bs0) (sl (inB s.is5 p.ns0) (sl ((Nat.blt (0 + s.is5.toNat) (len s.eh0)) && (Nat.ble (0 + 4) (len (m0 s.eh0 (0 + s.is5.toNat))))) (k ⟨(W (s.is5 + 1)), (W (s.is6 + 1)), (setAt s.eh0 (0 + s.is5.toNat) (T6 (m0 s.eh0 (0 + s.is5.toNat)) 0 [(i (rdR tP s.eh0 (0 + s.is6.toNat)).n.x), (i (rdR tP s.eh0 (0 + s.is6.toNat)).n.y), (i (rdR tP s.eh0 (0 + s.is6.toNat)).n.z), (i (rdR tP s.eh0 (0 + s.is6.toNat)).b)])), t1.j6⟩) z) z) (k ⟨s.is5, (W (s.is6 + 1)), s.eh0, t1.j6⟩)) z) z) z) z) (e 1))
noncomputable def z8 (p : G7) (s : p7) : Stp p7 := C3 .next .exit .fail p s
noncomputable def ba2 : Lo G7 p7 := ⟨En va0, 2, xe8, [1, 1, 1, 0, 1, 4, 4], [0, 1, 5, 6], .p, [⟨((.s (.o (.sl 0 0 (some 0) none))) :: ((.fn 101 [(.o (.ptr 1 0 0 0))]) :: (ru2 3 ((.s (.o (.int .i64))) :: ((.s (.o (.int .i64))) :: (ru2 35 [])))))), [⟨50, 4, true, none⟩, ⟨0, 1, true, (some [[(.c 4 (nL tX))]])⟩], fun a H => (⟨(slN (slT a 0))⟩, ⟨(toI (slT a 5)), (toI (slT a 6)), (elT H 0), (rL tX (slT (rwT (elT H 1) 0) 0))⟩)⟩], z8, [(some 0, fun p s => ⟨((.sl 0 0 p.ns0 0) :: ((.fn 101 [(.ptr 1 0 0 0)]) :: (ra 3 ((i s.is5) :: ((i s.is6) :: (ra 9 ((i s.is6) :: ((.sl 0 0 p.ns0 0) :: ((i (↑p.ns0 : Int)) :: ((b (decide (s.is6 < (↑p.ns0 : Int)))) :: (ra 22 []))))))))))), [⟨50, 4, s.eh0, true, false, 0⟩, ⟨0, 1, [[(eL tX s.r5)]], true, false, 0⟩]⟩)], Ta9⟩
theorem Ua0 : ba2.Ok := Lo.ok [] (by kernel_rfl) .nil rfl (.cons (fun a H => by kernel_rfl) .nil) fun p s => (.of @C3 (fun F _ _ _ _ _ => by unfold C3; (repeat' apply n7 (f := F)) <;> rfl) (by kernel_rfl))
structure S9 where
 alt : Nat
 ns0 : Nat
 eh0 : List (List b7)
 r5 : List Pt
noncomputable def D2 {α : Type} (kk : S9 → α) (x : S8) : α := let t1 := (S7 ⟨x.ns0, x.eh0, (rt tX x.r5)⟩); let t2 := (lp (z8 (⟨x.ns0⟩ : G7)) (⟨t1.is0, (W (t1.is0 + 1)), x.eh0, (rt tX t1.r5)⟩ : p7)); (sl ((cnE tX x.r5) && true) (sl (Nat.beq t1.alt 1) (sl (t1.is0 == (-1)) (kk ⟨1, x.ns0, x.eh0, t1.r5⟩) (sl ((cnE tX t1.r5) && true) (sl (Nat.beq t2.1 1) (sl (inB t2.2.is5 (x.ns0 + 1)) (sl (inB t2.2.is5 (x.ns0 + 1)) (kk ⟨1, (t2.2.is5.toNat - 0), (app (I6 t2.2.eh0 (0 + t2.2.is5.toNat)) (app (List.replicate (x.ns0 - t2.2.is5.toNat) [(i 0), (i 0), (i 0), (i 0)]) (g9 t2.2.eh0 ((0 + t2.2.is5.toNat) + (x.ns0 - t2.2.is5.toNat))))), t2.2.r5⟩) (kk ⟨0, 0, [], []⟩)) (kk ⟨0, 0, [], []⟩)) (kk ⟨0, 0, [], []⟩)) (kk ⟨0, 0, [], []⟩))) (kk ⟨0, 0, [], []⟩)) (kk ⟨0, 0, [], []⟩))
noncomputable def T0 (x : S8) : S9 := D2 (fun r => r) x
noncomputable def ea4 (x : S8) (r : S9) : DT (b7 × List b8) := (.ite (Nat.beq r.alt 1) (.ret ((.sl 0 0 r.ns0 0), [⟨50, 4, r.eh0, true, false, 0⟩, ⟨0, 1, [[(eL tX r.r5)]], true, false, 0⟩])) .fail)
theorem eb9 {α β : Type} (F : α → β) (kk : S9 → α) (x : S8) : F (D2 kk x) = D2 (fun r => F (kk r)) x := by unfold D2; (repeat' apply n7 (f := F)) <;> rfl
noncomputable def xa0 : Sum := Ya9 ⟨[(.s (.o (.sl 0 0 (some 0) none))), (.fn 101 [(.o (.ptr 1 0 0 0))])], [⟨50, 4, true, none⟩, ⟨0, 1, true, (some [[(.c 4 (nL tX))]])⟩], fun a H => (⟨(slN (slT a 0)), (elT H 0), (rL tX (slT (rwT (elT H 1) 0) 0))⟩, ())⟩ (fun x => ea4 x (T0 x))
theorem cb1 : j7 prog G 99 xa0 := R3 (enc := fun x => ⟨[(.sl 0 0 x.ns0 0), (.fn 101 [(.ptr 1 0 0 0)])], [⟨50, 4, x.eh0, true, false, 0⟩, ⟨0, 1, [[(eL tX x.r5)]], true, false, 0⟩]⟩) (fun a H => by kernel_rfl) (bd b99 Wa5) fun x => Ba5 (.s .p (.s .p (.s .p (.s (.s .p (.b (.u ba2.ls))) .p)))) [ba2.pr] (by kernel_rfl) (.cons Ua0 .nil) (Eq.trans (b := D2 (fun r => (ea4 x r).run) x) (by kernel_rfl) (eb9 (fun r => (ea4 x r).run) (fun r => r) x).symm)
structure ba3 where
 ns0 : Nat
 eh0 : List (List b7)
noncomputable def ma2 : List (Nat × Sum) := []
theorem lb0 : l5 prog G ma2 := trivial
structure A5 where
 ns0 : Nat
 os4 : Nat
 ns4 : Nat
structure o8 where
 is3 : Int
 is5 : Int
 eh0 : List (List b7)
noncomputable def fb0 (p : A5) (s : o8) : St := ⟨((.sl 0 0 p.ns0 0) :: (.unk :: (.unk :: ((i s.is3) :: ((.sl 0 p.os4 p.ns4 0) :: ((i s.is5) :: (ra 55 []))))))), [⟨50, 4, s.eh0, true, false, 0⟩]⟩
noncomputable def I0 {α : Type} (k : o8 → α) (e : Nat → α) (z : α) (p : A5) (s : o8) : α := (sl (decide (s.is5 < (↑p.ns4 : Int))) (sl (inB s.is5 p.ns4) (sl (ldR tP s.eh0 (p.os4 + s.is5.toNat)) (sl (inB (W (s.is5 - 1)) p.ns4) (sl (ldR tP s.eh0 (p.os4 + (W (s.is5 - 1)).toNat)) (sl (!(((rdR tP s.eh0 (p.os4 + s.is5.toNat)).n.x == (rdR tP s.eh0 (p.os4 + (W (s.is5 - 1)).toNat)).n.x) && (((rdR tP s.eh0 (p.os4 + s.is5.toNat)).n.y == (rdR tP s.eh0 (p.os4 + (W (s.is5 - 1)).toNat)).n.y) && (((rdR tP s.eh0 (p.os4 + s.is5.toNat)).n.z == (rdR tP s.eh0 (p.os4 + (W (s.is5 - 1)).toNat)).n.z) && (((rdR tP s.eh0 (p.os4 + s.is5.toNat)).b == (rdR tP s.eh0 (p.os4 + (W (s.is5 - 1)).toNat)).b) && true))))) (sl (inB s.is5 p.ns4) (sl (ldR tP s.eh0 (p.os4 + s.is5.toNat)) (sl (inB s.is3 p.ns0) (sl ((Nat.blt (0 + s.is3.toNat) (len s.eh0)) && (Nat.ble (0 + 4) (len (m0 s.eh0 (0 + s.is3.toNat))))) (k ⟨(W (s.is3 + 1)), (W (s.is5 + 1)), (setAt s.eh0 (0 + s.is3.toNat) (T6 (m0 s.eh0 (0 + s.is3.toNat)) 0 [(i (rdR tP s.eh0 (p.os4 + s.is5.toNat)).n.x), (i (rdR tP s.eh0 (p.os4 + s.is5.toNat)).n.y), (i (rdR tP s.eh0 (p.os4 + s.is5.toNat)).n.z), (i (rdR tP s.eh0 (p.os4 + s.is5.toNat)).b)]))⟩) z) z) z) z) (k ⟨s.is3, (W (s.is5 + 1)), s.eh0⟩)) z) z) z) z) (e 1))
noncomputable def p6 (p : A5) (s : o8) : Stp o8 := I0 .next .exit .fail p s
noncomputable def ja5 : Lo A5 o8 := ⟨En ma2, 1, Od9, [1, 1, 0, 1, 4, 4, 1, 0, 4, 1, 2, 1, 0, 1, 4, 4], [0, 3, 4, 5], .p, [⟨((.s (.o (.sl 0 0 (some 0) none))) :: ((.s (.o .unk)) :: ((.s (.o .unk)) :: ((.s (.o (.int .i64))) :: ((.s (.o (.sl 0 0 none none))) :: ((.s (.o (.int .i64))) :: (ru2 55 []))))))), [⟨50, 4, true, none⟩], fun a H => (⟨(slN (slT a 0)), (slO (slT a 4)), (slN (slT a 4))⟩, ⟨(toI (slT a 3)), (toI (slT a 5)), (elT H 0)⟩)⟩], p6, [(some 2, fun p s => ⟨((.sl 0 0 p.ns0 0) :: (.unk :: (.unk :: ((i s.is3) :: ((.sl 0 p.os4 p.ns4 0) :: ((i s.is5) :: (ra 23 ((i s.is5) :: ((.sl 0 p.os4 p.ns4 0) :: ((i (↑p.ns4 : Int)) :: ((b (decide (s.is5 < (↑p.ns4 : Int)))) :: (ra 28 [])))))))))))), [⟨50, 4, s.eh0, true, false, 0⟩]⟩)], fb0⟩
theorem fb1 : ja5.Ok := Lo.ok [] (by kernel_rfl) .nil rfl (.cons (fun a H => by kernel_rfl) .nil) fun p s => (.of @I0 (fun F _ _ _ _ _ => by unfold I0; (repeat' apply n7 (f := F)) <;> rfl) (by kernel_rfl))
structure K4 where
 ns0 : Nat
 eh0 : List (List b7)
structure p9 where
 is3 : Int
noncomputable def fb2 (p : K4) (s : p9) : St := ⟨((.sl 0 0 p.ns0 0) :: (.unk :: (.unk :: ((i s.is3) :: (ra 57 []))))), [⟨50, 4, p.eh0, true, false, 0⟩]⟩
noncomputable def I1 {α : Type} (k : p9 → α) (e : Nat → α) (z : α) (p : K4) (s : p9) : α := let t1 := (lp (p6 (⟨p.ns0, (0 + s.is3.toNat), (p.ns0 - s.is3.toNat)⟩ : A5)) (⟨s.is3, 1, p.eh0⟩ : o8)); (sl (decide (s.is3 < (↑p.ns0 : Int))) (sl (inB s.is3 p.ns0) (sl (ldR tP p.eh0 (0 + s.is3.toNat)) (sl (inB (W (s.is3 - 1)) p.ns0) (sl (ldR tP p.eh0 (0 + (W (s.is3 - 1)).toNat)) (sl (((rdR tP p.eh0 (0 + s.is3.toNat)).n.x == (rdR tP p.eh0 (0 + (W (s.is3 - 1)).toNat)).n.x) && (((rdR tP p.eh0 (0 + s.is3.toNat)).n.y == (rdR tP p.eh0 (0 + (W (s.is3 - 1)).toNat)).n.y) && (((rdR tP p.eh0 (0 + s.is3.toNat)).n.z == (rdR tP p.eh0 (0 + (W (s.is3 - 1)).toNat)).n.z) && (((rdR tP p.eh0 (0 + s.is3.toNat)).b == (rdR tP p.eh0 (0 + (W (s.is3 - 1)).toNat)).b) && true)))) (sl (inB s.is3 (p.ns0 + 1)) (sl (Nat.beq t1.1 1) (sl (inB t1.2.is3 (p.ns0 + 1)) (sl (inB t1.2.is3 (p.ns0 + 1)) (e 1) z) z) z) z) (k ⟨(W (s.is3 + 1))⟩)) z) z) z) z) (e 2))
noncomputable def J4 (p : K4) (s : p9) : Stp p9 := I1 .next .exit .fail p s
noncomputable def ja6 : Lo K4 p9 := ⟨En ma2, 1, Od9, [1, 1, 0, 1, 4, 4], [0, 3], (.s .p (.s (.b (.s .p (.c (.s .p (.s (.s .p (.b (.u ja5.ls))) .p)) .p))) .p)), [⟨((.s (.o (.sl 0 0 (some 0) none))) :: ((.s (.o .unk)) :: ((.s (.o .unk)) :: ((.s (.o (.int .i64))) :: (ru2 57 []))))), [⟨50, 4, true, none⟩], fun a H => (⟨(slN (slT a 0)), (elT H 0)⟩, ⟨(toI (slT a 3))⟩)⟩], J4, [(none, fun p s => let t1 := (lp (p6 (⟨p.ns0, (0 + s.is3.toNat), (p.ns0 - s.is3.toNat)⟩ : A5)) (⟨s.is3, 1, p.eh0⟩ : o8)); ⟨[(.sl 0 0 (t1.2.is3.toNat - 0) 0)], [⟨50, 4, (app (I6 t1.2.eh0 (0 + t1.2.is3.toNat)) (app (List.replicate (p.ns0 - t1.2.is3.toNat) [(i 0), (i 0), (i 0), (i 0)]) (g9 t1.2.eh0 ((0 + t1.2.is3.toNat) + (p.ns0 - t1.2.is3.toNat))))), true, false, 0⟩]⟩), (some 0, fun p s => ⟨((.sl 0 0 p.ns0 0) :: (.unk :: (.unk :: ((i s.is3) :: (ra 6 ((i s.is3) :: ((.sl 0 0 p.ns0 0) :: ((i (↑p.ns0 : Int)) :: ((b (decide (s.is3 < (↑p.ns0 : Int)))) :: (ra 47 [])))))))))), [⟨50, 4, p.eh0, true, false, 0⟩]⟩)], fb2⟩
theorem fb3 : ja6.Ok := Lo.ok [ja5.pr] (by kernel_rfl) (.cons fb1 .nil) rfl (.cons (fun a H => by kernel_rfl) .nil) fun p s => (.of @I1 (fun F _ _ _ _ _ => by unfold I1; (repeat' apply n7 (f := F)) <;> rfl) (by kernel_rfl))
structure ba4 where
 alt : Nat
 ns0 : Nat
 eh0 : List (List b7)
noncomputable def J0 {α : Type} (kk : ba4 → α) (x : ba3) : α := let t1 := (lp (J4 (⟨x.ns0, x.eh0⟩ : K4)) (⟨1⟩ : p9)); let t2 := (lp (p6 (⟨x.ns0, (0 + t1.2.is3.toNat), (x.ns0 - t1.2.is3.toNat)⟩ : A5)) (⟨t1.2.is3, 1, x.eh0⟩ : o8)); (sl (decide ((↑x.ns0 : Int) < 2)) (kk ⟨1, x.ns0, x.eh0⟩) (sl (Nat.beq t1.1 1) (kk ⟨1, (t2.2.is3.toNat - 0), (app (I6 t2.2.eh0 (0 + t2.2.is3.toNat)) (app (List.replicate (x.ns0 - t2.2.is3.toNat) [(i 0), (i 0), (i 0), (i 0)]) (g9 t2.2.eh0 ((0 + t2.2.is3.toNat) + (x.ns0 - t2.2.is3.toNat)))))⟩) (sl (Nat.beq t1.1 2) (kk ⟨1, x.ns0, x.eh0⟩) (kk ⟨0, 0, []⟩))))
noncomputable def ba5 (x : ba3) : ba4 := J0 (fun r => r) x
noncomputable def ma3 (x : ba3) (r : ba4) : DT (b7 × List b8) := (.ite (Nat.beq r.alt 1) (.ret ((.sl 0 0 r.ns0 0), [⟨50, 4, r.eh0, true, false, 0⟩])) .fail)
theorem tb1 {α β : Type} (F : α → β) (kk : ba4 → α) (x : ba3) : F (J0 kk x) = J0 (fun r => F (kk r)) x := by unfold J0; (repeat' apply n7 (f := F)) <;> rfl
noncomputable def Ha9 : Sum := Ya9 ⟨[(.s (.o (.sl 0 0 (some 0) none)))], [⟨50, 4, true, none⟩], fun a H => (⟨(slN (slT a 0)), (elT H 0)⟩, ())⟩ (fun x => ma3 x (ba5 x))
theorem ob0 : j7 prog G 105 Ha9 := R3 (enc := fun x => ⟨[(.sl 0 0 x.ns0 0)], [⟨50, 4, x.eh0, true, false, 0⟩]⟩) (fun a H => by kernel_rfl) (bd Ie4 lb0) fun x => Ba5 (.s .p (.s .p (.s (.s .p (.b (.u ja6.ls))) .p))) [ja6.pr] (by kernel_rfl) (.cons fb3 .nil) (Eq.trans (b := J0 (fun r => (ma3 x r).run) x) (by kernel_rfl) (tb1 (fun r => (ma3 x r).run) (fun r => r) x).symm)
noncomputable def zc6 : List (Nat × Sum) := []
theorem mc2 : l5 prog G zc6 := trivial
noncomputable def za2 (x : Int) (y : Int) : Option (b7 × List b8) := (sl (decide (x < y)) (some ((i (-1)), [])) (sl (decide (x > y)) (some ((i 1), [])) (some ((i 0), []))))
noncomputable def ja7 (x : Int) (y : Int) : Int := O4 (one r1I) (za2 x y)
noncomputable def ja8 (x : Int) (y : Int) : Bool := okO (one r1I) (za2 x y)
noncomputable def Lb0 : Sum := ja9 cI cI (fun x y => .guard (ja8 x y) (.ret ((one r1I).enc (ja7 x y), [])))
theorem zc7 : j7 prog G 179 Lb0 := lb8 (bd Le2 mc2) (one r1I) (o := za2) fun x y => s9 (by kernel_rfl)
noncomputable def ec1 : List (Nat × Sum) := [(179, Lb0)]
theorem Wb7 : l5 prog G ec1 := ⟨zc7, trivial⟩
noncomputable def pa5 (x : Pln) (y : Pln) : Option (b7 × List b8) := let t1 := (ja7 x.n.x y.n.x); let t2 := (ja7 x.n.y y.n.y); let t3 := (ja7 x.n.z y.n.z); let t4 := (ja7 x.b y.b); (sl (ja8 x.n.x y.n.x) (sl (t1 == 0) (sl (ja8 x.n.y y.n.y) (sl (t2 == 0) (sl (ja8 x.n.z y.n.z) (sl (t3 == 0) (sl (ja8 x.b y.b) (sl (t4 == 0) (some ((i t4), [])) (some ((i t4), []))) none) (some ((i t3), []))) none) (some ((i t2), []))) none) (some ((i t1), []))) none)
noncomputable def Aa4 (x : Pln) (y : Pln) : Int := O4 (one r1I) (pa5 x y)
noncomputable def Aa5 (x : Pln) (y : Pln) : Bool := okO (one r1I) (pa5 x y)
noncomputable def Ua1 : Sum := ja9 (V6 tP) (V6 tP) (fun x y => .guard (Aa5 x y) (.ret ((one r1I).enc (Aa4 x y), [])))
theorem ec2 : j7 prog G 104 Ua1 := lb8 (bd Ie3 Wb7) (one r1I) (o := pa5) fun x y => s9 (by kernel_rfl)
noncomputable def kd0 : List (Nat × Sum) := [(164, ab6)]
theorem Wc0 : l5 prog G kd0 := ⟨ub5, trivial⟩
noncomputable def cb2 (x : V3) : Option (b7 × List b8) := let t1 := (la0 24 [x.x, x.y, x.z]); (sl (la1 24 [x.x, x.y, x.z]) (some ((b t1), [])) none)
noncomputable def tb2 (x : V3) : Bool := O4 (one r1B) (cb2 x)
noncomputable def tb3 (x : V3) : Bool := okO (one r1B) (cb2 x)
noncomputable def zc8 : Sum := ia6 (V6 tV) (fun x => .guard (tb3 x) (.ret ((one r1B).enc (tb2 x), [])))
theorem kd1 : j7 prog G 107 zc8 := Ba4 (bd Ie5 Wc0) (one r1B) (o := cb2) fun x => s9 (by kernel_rfl)
noncomputable def kd2 : List (Nat × Sum) := [(87, va9), (107, zc8), (108, Ma7)]
theorem Wc1 : l5 prog G kd2 := ⟨ya5, kd1, ab5, trivial⟩
noncomputable def cb3 (x : List Pln) (y : V3) : Option (b7 × List b8) := let t1 := (Z9 [(rt tP x)]); let t2 := (tb2 y); let t3 := (U3 (rt tP x) (⟨y.x, y.y, y.z, 1⟩ : Pt)); (sl ((okE tP x) && true) (sl (aa0 [(rt tP x)]) (sl t1 (sl (tb3 y) (sl t2 (sl (okE tP x) (sl (U4 (rt tP x) (⟨y.x, y.y, y.z, 1⟩ : Pt)) (some ((b t3), [])) none) none) (some ((b false), []))) none) (some ((b false), []))) none) none)
noncomputable def cb4 (x : List Pln) (y : V3) : Bool := O4 (one r1B) (cb3 x y)
noncomputable def cb5 (x : List Pln) (y : V3) : Bool := okO (one r1B) (cb3 x y)
noncomputable def zc9 : Sum := ja9 (ga9 tP) (V6 tV) (fun x y => .guard (cb5 x y) (.ret ((one r1B).enc (cb4 x y), [])))
theorem kd3 : j7 prog G 28 zc9 := lb8 (bd b28 Wc1) (one r1B) (o := cb3) fun x y => s9 (by kernel_rfl)
noncomputable def Hc3 : List (Nat × Sum) := [(87, va9), (88, Gb2), (92, Ba8)]
theorem Ac0 : l5 prog G Hc3 := ⟨ya5, Nb7, Ua6, trivial⟩
noncomputable def Ia0 (x : List Pln) (y : List Pln) : Option (b7 × List b8) := let t1 := (Z9 [(rt tP x), (rt tP y)]); let t2 := (Ka8 [(rt tP x), (rt tP y)]); let t3 := (da7 (rt tP t2)); (sl ((okE tP x) && ((okE tP y) && true)) (sl (aa0 [(rt tP x), (rt tP y)]) (sl (!t1) (some ((b true), [])) (sl ((okE tP x) && ((okE tP y) && true)) (sl (Ka9 [(rt tP x), (rt tP y)]) (sl (okE tP t2) (sl (da8 (rt tP t2)) (some ((b (!t3)), [])) none) none) none) none)) none) none)
noncomputable def J1 (x : List Pln) (y : List Pln) : Bool := O4 (one r1B) (Ia0 x y)
noncomputable def f8 (x : List Pln) (y : List Pln) : Bool := okO (one r1B) (Ia0 x y)
noncomputable def tb4 : Sum := ja9 (ga9 tP) (ga9 tP) (fun x y => .guard (f8 x y) (.ret ((one r1B).enc (J1 x y), [])))
theorem Lb1 : j7 prog G 31 tb4 := lb8 (bd b31 Ac0) (one r1B) (o := Ia0) fun x y => s9 (by kernel_rfl)
structure Aa6 where
 ma5 : Int
 ma6 : Int
 ma7 : Int
 db2 : Int
 d8 : List Pln
noncomputable def ec3 : List (Nat × Sum) := [(108, Ma7)]
theorem Wb8 : l5 prog G ec3 := ⟨ab5, trivial⟩
structure pa6 where
 alt : Nat
 bs0 : Bool
noncomputable def ga4 {α : Type} (kk : pa6 → α) (x : Aa6) : α := let t1 := (U3 (rt tP x.d8) (⟨x.ma5, x.ma6, x.ma7, x.db2⟩ : Pt)); (sl (okE tP x.d8) (sl (U4 (rt tP x.d8) (⟨x.ma5, x.ma6, x.ma7, x.db2⟩ : Pt)) (kk ⟨1, (!t1)⟩) (kk ⟨0, false⟩)) (kk ⟨0, false⟩))
noncomputable def Aa7 (x : Aa6) : pa6 := ga4 (fun r => r) x
noncomputable def La9 (x : Aa6) (r : pa6) : DT (b7 × List b8) := (.ite (Nat.beq r.alt 1) (.ret ((b r.bs0), [⟨0, 1, [[(eL tP x.d8)]], true, false, 0⟩])) .fail)
theorem mc3 {α β : Type} (F : α → β) (kk : pa6 → α) (x : Aa6) : F (ga4 kk x) = ga4 (fun r => F (kk r)) x := by unfold ga4; (repeat' apply n7 (f := F)) <;> rfl
noncomputable def ub8 : Sum := Ya9 ⟨[(.agg [(.o (.int .i64)), (.o (.int .i64)), (.o (.int .i64)), (.o (.int .i64))]), (.s (.o (.ptr 0 0 0 0)))], [⟨0, 1, true, (some [[(.c 4 (nL tP))]])⟩], fun a H => (⟨(toI (slT (cellsOf (slT a 0)) 0)), (toI (slT (cellsOf (slT a 0)) 1)), (toI (slT (cellsOf (slT a 0)) 2)), (toI (slT (cellsOf (slT a 0)) 3)), (rL tP (slT (rwT (elT H 0) 0) 0))⟩, ())⟩ (fun x => La9 x (Aa7 x))
theorem ec4 : j7 prog G 114 ub8 := R3 (enc := fun x => ⟨[(.agg [(i x.ma5), (i x.ma6), (i x.ma7), (i x.db2)]), (.ptr 0 0 0 0)], [⟨0, 1, [[(eL tP x.d8)]], true, false, 0⟩]⟩) (fun a H => by kernel_rfl) (bd Je0 Wb8) fun x => s9 (Eq.trans (b := ga4 (fun r => (La9 x r).run) x) (by kernel_rfl) (mc3 (fun r => (La9 x r).run) (fun r => r) x).symm)
structure T1 where
 A8 : List Pt
 d8 : List Pln
noncomputable def va1 : List (Nat × Sum) := [(114, ub8)]
theorem Wa6 : l5 prog G va1 := ⟨ec4, trivial⟩
structure G8 where
 A8 : List Pt
 is7 : Int
structure o5 where
 is8 : Int
 d8 : List Pln
noncomputable def Ua2 (p : G8) (s : o5) : St := ⟨((eL tX p.A8) :: ((.fn 114 [(.ptr 0 0 0 0)]) :: (ra 5 ((i p.is7) :: ((i s.is8) :: (ra 10 [])))))), [⟨0, 1, [[(eL tP s.d8)]], true, false, 0⟩]⟩
noncomputable def C5 {α : Type} (k : o5 → α) (e : Nat → α) (z : α) (p : G8) (s : o5) : α := let t1 := (Aa7 ⟨(gL tX p.A8 s.is8.toNat).px, (gL tX p.A8 s.is8.toNat).py, (gL tX p.A8 s.is8.toNat).pz, (gL tX p.A8 s.is8.toNat).pw, (rt tP s.d8)⟩); (sl (decide (s.is8 < p.is7)) (sl (inB s.is8 (List.length p.A8)) (sl ((cnE tP s.d8) && true) (sl (Nat.beq t1.alt 1) (sl t1.bs0 (e 1) (k ⟨(W (s.is8 + 1)), (rt tP s.d8)⟩)) z) z) z) (e 2))
noncomputable def E9 (p : G8) (s : o5) : Stp o5 := C5 .next .exit .fail p s
noncomputable def ba6 : Lo G8 o5 := ⟨En va1, 1, Pd2, [1, 0, 1, 4, 4], [0, 1, 7, 8], .p, [⟨((.s (.c 4 (nL tX))) :: ((.fn 114 [(.o (.ptr 0 0 0 0))]) :: (ru2 5 ((.s (.o (.int .i64))) :: ((.s (.o (.int .i64))) :: (ru2 10 [])))))), [⟨0, 1, true, (some [[(.c 4 (nL tP))]])⟩], fun a H => (⟨(rL tX (slT a 0)), (toI (slT a 7))⟩, ⟨(toI (slT a 8)), (rL tP (slT (rwT (elT H 0) 0) 0))⟩)⟩], E9, [(none, fun p s => ⟨[(i s.is8)], [⟨0, 1, [[(eL tP (rt tP s.d8))]], true, false, 0⟩]⟩), (some 0, fun p s => ⟨((eL tX p.A8) :: ((.fn 114 [(.ptr 0 0 0 0)]) :: (ra 5 ((i p.is7) :: ((i s.is8) :: ((b (decide (s.is8 < p.is7))) :: (ra 9 []))))))), [⟨0, 1, [[(eL tP s.d8)]], true, false, 0⟩]⟩)], Ua2⟩
theorem Ua3 : ba6.Ok := Lo.ok [] (by kernel_rfl) .nil rfl (.cons (fun a H => by kernel_rfl) .nil) fun p s => (.of @C5 (fun F _ _ _ _ _ => by unfold C5; (repeat' apply n7 (f := F)) <;> rfl) (by kernel_rfl))
structure T2 where
 alt : Nat
 is0 : Int
 d8 : List Pln
noncomputable def D3 {α : Type} (kk : T2 → α) (x : T1) : α := let t1 := (lp (E9 (⟨(rt tX x.A8), (↑(List.length x.A8) : Int)⟩ : G8)) (⟨0, (rt tP x.d8)⟩ : o5)); (sl ((cnE tX x.A8) && ((cnE tP x.d8) && true)) (sl (Nat.beq t1.1 1) (kk ⟨1, t1.2.is8, (rt tP t1.2.d8)⟩) (sl (Nat.beq t1.1 2) (kk ⟨1, (-1), t1.2.d8⟩) (kk ⟨0, 0, []⟩))) (kk ⟨0, 0, []⟩))
noncomputable def fa6 (x : T1) : T2 := D3 (fun r => r) x
noncomputable def ea5 (x : T1) (r : T2) : DT (b7 × List b8) := (.ite (Nat.beq r.alt 1) (.ret ((i r.is0), [⟨0, 1, [[(eL tP r.d8)]], true, false, 0⟩])) .fail)
theorem fb4 {α β : Type} (F : α → β) (kk : T2 → α) (x : T1) : F (D3 kk x) = D3 (fun r => F (kk r)) x := by unfold D3; (repeat' apply n7 (f := F)) <;> rfl
noncomputable def xa1 : Sum := Ya9 ⟨[(.s (.c 4 (nL tX))), (.fn 114 [(.o (.ptr 0 0 0 0))])], [⟨0, 1, true, (some [[(.c 4 (nL tP))]])⟩], fun a H => (⟨(rL tX (slT a 0)), (rL tP (slT (rwT (elT H 0) 0) 0))⟩, ())⟩ (fun x => ea5 x (fa6 x))
theorem cb6 : j7 prog G 185 xa1 := R3 (enc := fun x => ⟨[(eL tX x.A8), (.fn 114 [(.ptr 0 0 0 0)])], [⟨0, 1, [[(eL tP x.d8)]], true, false, 0⟩]⟩) (fun a H => by kernel_rfl) (bd Be2 Wa6) fun x => Ba5 (.s .p (.s (.s .p (.b (.u ba6.ls))) .p)) [ba6.pr] (by kernel_rfl) (.cons Ua3 .nil) (Eq.trans (b := D3 (fun r => (ea5 x r).run) x) (by kernel_rfl) (fb4 (fun r => (ea5 x r).run) (fun r => r) x).symm)
structure L9 where
 A8 : List Pt
 d8 : List Pln
noncomputable def Qa7 : List (Nat × Sum) := [(185, xa1)]
theorem Ma0 : l5 prog G Qa7 := ⟨cb6, trivial⟩
structure M0 where
 alt : Nat
 bs0 : Bool
 d8 : List Pln
noncomputable def z9 {α : Type} (kk : M0 → α) (x : L9) : α := let t1 := (fa6 ⟨(rt tX x.A8), (rt tP x.d8)⟩); (sl ((cnE tX x.A8) && ((cnE tP x.d8) && true)) (sl (Nat.beq t1.alt 1) (kk ⟨1, (decide (t1.is0 ≥ 0)), t1.d8⟩) (kk ⟨0, false, []⟩)) (kk ⟨0, false, []⟩))
noncomputable def Y8 (x : L9) : M0 := z9 (fun r => r) x
noncomputable def X3 (x : L9) (r : M0) : DT (b7 × List b8) := (.ite (Nat.beq r.alt 1) (.ret ((b r.bs0), [⟨0, 1, [[(eL tP r.d8)]], true, false, 0⟩])) .fail)
theorem Ua4 {α β : Type} (F : α → β) (kk : M0 → α) (x : L9) : F (z9 kk x) = z9 (fun r => F (kk r)) x := by unfold z9; (repeat' apply n7 (f := F)) <;> rfl
noncomputable def pa7 : Sum := Ya9 ⟨[(.s (.c 4 (nL tX))), (.fn 114 [(.o (.ptr 0 0 0 0))])], [⟨0, 1, true, (some [[(.c 4 (nL tP))]])⟩], fun a H => (⟨(rL tX (slT a 0)), (rL tP (slT (rwT (elT H 0) 0) 0))⟩, ())⟩ (fun x => X3 x (Y8 x))
theorem Qa8 : j7 prog G 113 pa7 := R3 (enc := fun x => ⟨[(eL tX x.A8), (.fn 114 [(.ptr 0 0 0 0)])], [⟨0, 1, [[(eL tP x.d8)]], true, false, 0⟩]⟩) (fun a H => by kernel_rfl) (bd Be1 Ma0) fun x => s9 (Eq.trans (b := z9 (fun r => (X3 x r).run) x) (by kernel_rfl) (Ua4 (fun r => (X3 x r).run) (fun r => r) x).symm)
noncomputable def Ac1 : List (Nat × Sum) := [(20, Da4), (87, va9), (18, qa2), (113, pa7)]
theorem mc4 : l5 prog G Ac1 := ⟨Ga9, ya5, ua1, Qa8, trivial⟩
noncomputable def za3 (x : List Pln) (y : List Pln) : Option (b7 × List b8) := let t1 := (R2 (rt tP x)); let t2 := (Z9 [(rt tP y)]); let t3 := (V0 (rt tP x)); let t4 := (Y8 ⟨(rt tX t3), (rt tP y)⟩); (sl (okE tP x) (sl (F9 (rt tP x)) (sl t1 (sl ((okE tP y) && true) (sl (aa0 [(rt tP y)]) (sl t2 (sl (okE tP x) (sl (I5 (rt tP x)) (sl ((cnE tX t3) && ((cnE tP y) && true)) (sl (Nat.beq t4.alt 1) (some ((b (!t4.bs0)), [])) none) none) none) none) (some ((b false), []))) none) none) (some ((b false), []))) none) none)
noncomputable def F8 (x : List Pln) (y : List Pln) : Bool := O4 (one r1B) (za3 x y)
noncomputable def b9 (x : List Pln) (y : List Pln) : Bool := okO (one r1B) (za3 x y)
noncomputable def lb1 : Sum := ja9 (ga9 tP) (ga9 tP) (fun x y => .guard (b9 x y) (.ret ((one r1B).enc (F8 x y), [])))
theorem Cb9 : j7 prog G 33 lb1 := lb8 (bd b33 mc4) (one r1B) (o := za3) fun x y => s9 (by kernel_rfl)
noncomputable def kd4 : List (Nat × Sum) := []
theorem Wc2 : l5 prog G kd4 := trivial
structure tb5 where
 d9 : Int
 N2 : Int
 N3 : Int
 N4 : Int
 N5 : Int
 N6 : Int
noncomputable def cb7 {α : Type} (kk : tb5 → α) (x : V3) (y : V3) : α := (kk ⟨y.x, (W (0 - x.x)), y.y, (W (0 - x.y)), y.z, (W (0 - x.z))⟩)
noncomputable def Ac2 (x : V3) (y : V3) : tb5 := cb7 (fun r => r) x y
noncomputable def Db0 (r : tb5) : DT (b7 × List b8) := .ret ((.sl 0 0 6 0), [⟨50, 4, [[(i 1), (i 0), (i 0), (i r.d9)], [(i (-1)), (i 0), (i 0), (i r.N2)], [(i 0), (i 1), (i 0), (i r.N3)], [(i 0), (i (-1)), (i 0), (i r.N4)], [(i 0), (i 0), (i 1), (i r.N5)], [(i 0), (i 0), (i (-1)), (i r.N6)]], true, false, 0⟩])
theorem td6 {α β : Type} (F : α → β) (kk : tb5 → α) (x : V3) (y : V3) : F (cb7 kk x y) = cb7 (fun r => F (kk r)) x y := by unfold cb7; (repeat' apply n7 (f := F)) <;> rfl
noncomputable def Ac3 : Sum := ja9 (V6 tV) (V6 tV) (fun x y => Db0 (Ac2 x y))
theorem kd5 : j7 prog G 111 Ac3 := ra5 (bd Be0 Wc2) fun x y => s9 (Eq.trans (b := cb7 (fun r => (Db0 r).run) x y) (by kernel_rfl) (td6 (fun r => (Db0 r).run) (fun r => r) x y).symm)
noncomputable def Hc4 : List (Nat × Sum) := [(111, Ac3)]
theorem Ac4 : l5 prog G Hc4 := ⟨kd5, trivial⟩
structure Wa7 where
 d9 : Int
 N2 : Int
 N3 : Int
 N4 : Int
 N5 : Int
 N6 : Int
noncomputable def Ia1 {α : Type} (kk : Wa7 → α)  : α := let t1 := (Ac2 (⟨0, 0, 0⟩ : V3) (⟨1, 1, 1⟩ : V3)); (kk ⟨t1.d9, t1.N2, t1.N3, t1.N4, t1.N5, t1.N6⟩)
noncomputable def tb6  : Wa7 := Ia1 (fun r => r)
noncomputable def lb2 (r : Wa7) : DT (b7 × List b8) := .ret ((.sl 0 0 6 0), [⟨50, 4, [[(i 1), (i 0), (i 0), (i r.d9)], [(i (-1)), (i 0), (i 0), (i r.N2)], [(i 0), (i 1), (i 0), (i r.N3)], [(i 0), (i (-1)), (i 0), (i r.N4)], [(i 0), (i 0), (i 1), (i r.N5)], [(i 0), (i 0), (i (-1)), (i r.N6)]], true, false, 0⟩])
theorem Wc3 {α β : Type} (F : α → β) (kk : Wa7 → α)  : F (Ia1 kk ) = Ia1 (fun r => F (kk r))  := by unfold Ia1; (repeat' apply n7 (f := F)) <;> rfl
noncomputable def Wb9 : Sum := bd6  (lb2 (tb6 ))
theorem Hc5 : j7 prog G 81 Wb9 := wd0 (bd b81 Ac4) (s9 (Eq.trans (b := Ia1 (fun r => (lb2 r).run) ) (by kernel_rfl) (Wc3 (fun r => (lb2 r).run) (fun r => r) ).symm))
end Go.Ev.Ce
end
namespace Go.Ev.Ce
open Go Go.Ev Go.Ev.L Go.Proofs
theorem Sd6 (v : V3) : tb2 v = inV v ∧ tb3 v = true := by
 have h3 : [v.x, v.y, v.z].length ≤ 1000000000 := by simp
 have : cb2 v = some (b (inV v), []) := by
  unfold cb2 inV
  simp only [cc6 24 _ (by omega) h3, cc7 24 _ (by omega) h3, n5]
  simp only [List.all_cons, List.all_nil, Bool.and_true]
 unfold tb2 tb3
 rw [this]
 exact ⟨rfl, rfl⟩
noncomputable def has (c : List Pln) (v : V3) : Bool := (chk c == 0) && (inV v && inn c ⟨v.x, v.y, v.z, 1⟩)
theorem Sd7 {c : List Pln} (hc : c.length ≤ 1000000000) (v : V3) : cb3 c v = some (b (has c v), []) := by
 unfold cb3 has
 simp only [l8, K0, Vb4 c hc, Vb5 c hc, (Sd6 v).1, (Sd6 v).2, wc4 c _ hc, wc5 c _ hc]
 cases chk c == 0 with
 | false => rfl
 | true => cases inV v <;> rfl
theorem Ce7 {c : List Pln} (hc : c.length ≤ 1000000000) (v : V3) : cb4 c v = has c v := by unfold cb4; rw [Sd7 hc]; rfl
theorem Ce8 {c : List Pln} (hc : c.length ≤ 1000000000) (v : V3) : cb5 c v = true := by unfold cb5; rw [Sd7 hc]; rfl
theorem Ac5 {a c : List Pln} (ha : (chk a == 0) = true) (hc : (chk c == 0) = true) : Bds (a ++ c ++ ws) ∧ (a ++ c ++ ws).length ≤ 200 := by
 rw [beq_iff_eq, Cb0] at ha hc
 refine ⟨fun p hp => ?_, by rw [List.length_append, List.length_append, show ws.length = 6 from rfl]; omega⟩
 rcases List.mem_append.1 hp with hp | hp
 ·rcases List.mem_append.1 hp with hp | hp
  ·exact La2 (ha.2 p hp)
  ·exact La2 (hc.2 p hp)
 ·exact ke7 p hp
noncomputable def apart (a c : List Pln) : Bool := !((chk a == 0) && (chk c == 0)) || !xc3 (a ++ c ++ ws)
theorem kd6 {a c : List Pln} (ha : a.length ≤ 100000000) (hc : c.length ≤ 100000000) : Ia0 a c = some (b (apart a c), []) := by
 have hn : [a, c].length ≤ 1000000000 := by simp
 have hl : ∀ x ∈ [a, c], x.length ≤ 1000000000 := by
  intro x hx
  simp only [List.mem_cons, List.not_mem_nil, or_false] at hx
  rcases hx with rfl | rfl <;> omega
 have hf : [a, c].flatten = a ++ c := by simp
 have hfl : [a, c].flatten.length ≤ 1000000000 := by rw [hf, List.length_append]; omega
 unfold Ia0 apart
 simp only [l8, K0, gd9 _ hn hl, hd4 _ hn hl, Be7 _ hn hfl, Be8 _ hn hfl, hf, List.all_cons, List.all_nil, Bool.and_true]
 cases h1 : chk a == 0 with
 | false => rfl
 | true =>
  cases h2 : chk c == 0 with
  | false => rfl
  | true =>
   obtain ⟨q1, q2⟩ := Ac5 h1 h2
   rw [Rd3 _ q1 q2, Rd4 _ q1 q2]
   rfl
theorem tb7 {a c : List Pln} (ha : a.length ≤ 100000000) (hc : c.length ≤ 100000000) : J1 a c = apart a c := by unfold J1; rw [kd6 ha hc]; rfl
theorem tb8 {a c : List Pln} (ha : a.length ≤ 100000000) (hc : c.length ≤ 100000000) : f8 a c = true := by unfold f8; rw [kd6 ha hc]; rfl
noncomputable def Ac6 (a c : List Pln) : Bool := ful a && ((chk c == 0) && (pts a).all (inn c))
theorem td7 (x : Pt) (c : List Pln) (hc : c.length ≤ 1000000000) : Aa7 ⟨x.px, x.py, x.pz, x.pw, c⟩ = ⟨1, !inn c x⟩ := by
 unfold Aa7 ga4
 simp only [l8, K0, n5]
 show sl (U4 c x) (pa6.mk 1 (!U3 c x)) _ = _
 rw [wc4 c x hc, wc5 c x hc]
 rfl
theorem Nc1 {a c : List Pln} (ha : a.length ≤ 1000000000) (hc : c.length ≤ 1000000000) : za3 a c = some (b (Ac6 a c), []) := by
 have hX := nc9 a
 have h := Va2 (step := E9 ⟨pts a, ((pts a).length : Int)⟩) (mk := fun j => (⟨(j : Int), c⟩ : o5)) (c := fun x => !inn c x) (u := 1) (fin := 2) tX (pts a) (by omega)
  (fun j hj => by
   simp only [E9, C5, Int.toNat_natCast, l8, l6, td7 _ _ hc, n8 hj (show (pts a).length ≤ 4611686018427387904 by omega)]
   rw [btD (l0 hj), bt (e8 hj)]
   rfl)
  (by simp only [E9, C5]; rw [bfD (v8 (Nat.lt_irrefl _))]) 0 (Nat.zero_le _)
 rw [List.drop_zero] at h
 have e : ((pts a).any fun x => !inn c x) = !(pts a).all (inn c) := by rw [List.not_all_eq_any_not]
 unfold za3 Y8 z9 fa6 D3 Ac6
 simp only [l8, l6, K0, sb1 ha, sb2 ha, Vb4 c hc, Vb5 c hc, nb6 ha, nb7 ha]
 rw [show (⟨0, c⟩ : o5) = ⟨((0 : Nat) : Int), c⟩ from rfl, h, e]
 cases ful a with
 | false => rfl
 | true =>
  cases chk c == 0 with
  | false => rfl
  | true =>
   cases (pts a).all (inn c) with
   | true => rfl
   | false =>
    simp only [Bool.not_false, if_true, Nat.zero_add]
    show some (b (!(decide ((((pts a).findIdx fun x => !inn c x : Nat) : Int) ≥ 0))), []) = _
    rw [show decide ((((pts a).findIdx fun x => !inn c x : Nat) : Int) ≥ 0) = true from decide_eq_true (by omega)]
    rfl
theorem Ia2 {a c : List Pln} (ha : a.length ≤ 1000000000) (hc : c.length ≤ 1000000000) : F8 a c = Ac6 a c := by unfold F8; rw [Nc1 ha hc]; rfl
theorem Ia3 {a c : List Pln} (ha : a.length ≤ 1000000000) (hc : c.length ≤ 1000000000) : b9 a c = true := by unfold b9; rw [Nc1 ha hc]; rfl
end Go.Ev.Ce
