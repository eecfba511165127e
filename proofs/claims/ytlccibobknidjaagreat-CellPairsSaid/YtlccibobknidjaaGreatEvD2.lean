/- Own work: a part of the proof. -/
import Derived.Test.YtlccibobknidjaaGreatEvD0
set_option linter.unusedVariables false
set_option linter.unusedSimpArgs false
set_option linter.unnecessarySimpa false
set_option linter.unusedSectionVars false
namespace Go.Ev.Ce
open Go Go.Ev Go.Ev.L Go.Proofs
set_option maxRecDepth 100000
noncomputable def ed0 : List (Nat × Sum) := []
theorem Rc9 : j8 prog G ed0 := trivial
noncomputable def Za7 (x : Pln) (y : Pt) : Int := (W ((W ((W ((W (x.b * y.pw)) - (W (x.n.x * y.px)))) - (W (x.n.y * y.py)))) - (W (x.n.z * y.pz))))
noncomputable def Mb5 : Sum := ga9 (N8 tP) (N8 tX) (fun x y => .ret ((one r1I).enc (Za7 x y), []))
theorem gc2 : i5 prog G 37 Mb5 := va1 (bd b37 Rc9) fun x y => r5 (by kernel_rfl)
noncomputable def qd0 : List (Nat × Sum) := []
theorem ed1 : j8 prog G qd0 := trivial
noncomputable def Xa9 (x : V3) (y : V3) : V3 := (⟨(W (x.x + y.x)), (W (x.y + y.y)), (W (x.z + y.z))⟩ : V3)
noncomputable def Lc3 : Sum := ga9 (N8 tV) (N8 tV) (fun x y => .ret ((one r1V).enc (Xa9 x y), []))
theorem qd1 : i5 prog G 126 Lc3 := va1 (bd Ae0 ed1) fun x y => r5 (by kernel_rfl)
noncomputable def qd2 : List (Nat × Sum) := []
theorem ed2 : j8 prog G qd2 := trivial
noncomputable def Ca9 (x : V3) (y : V3) : Int := (W ((W ((W (x.x * y.x)) + (W (x.y * y.y)))) + (W (x.z * y.z))))
noncomputable def Fb7 : Sum := ga9 (N8 tV) (N8 tV) (fun x y => .ret ((one r1I).enc (Ca9 x y), []))
theorem Mb6 : i5 prog G 130 Fb7 := va1 (bd Ae2 ed2) fun x y => r5 (by kernel_rfl)
noncomputable def Sc0 : List (Nat × Sum) := []
theorem Cc3 : j8 prog G Sc0 := trivial
noncomputable def O0 (x : V3) (y : V3) : V3 := (⟨(W ((W (x.y * y.z)) - (W (x.z * y.y)))), (W ((W (x.z * y.x)) - (W (x.x * y.z)))), (W ((W (x.x * y.y)) - (W (x.y * y.x))))⟩ : V3)
noncomputable def Ab3 : Sum := ga9 (N8 tV) (N8 tV) (fun x y => .ret ((one r1V).enc (O0 x y), []))
theorem Tb2 : i5 prog G 186 Ab3 := va1 (bd Ce3 Cc3) fun x y => r5 (by kernel_rfl)
noncomputable def Cc4 : List (Nat × Sum) := []
theorem tc8 : j8 prog G Cc4 := trivial
noncomputable def M2 (x : V3) (y : Int) : V3 := (⟨(W (x.x * y)), (W (x.y * y)), (W (x.z * y))⟩ : V3)
noncomputable def Tb3 : Sum := ga9 (N8 tV) cI (fun x y => .ret ((one r1V).enc (M2 x y), []))
theorem Cc5 : i5 prog G 219 Tb3 := va1 (bd De1 tc8) fun x y => r5 (by kernel_rfl)
noncomputable def Jb5 : List (Nat × Sum) := []
theorem tc9 : j8 prog G Jb5 := trivial
structure ra4 where
structure T0 where
 is0 : Int
 is1 : Int
noncomputable def jc3 (p : ra4) (s : T0) : St := ⟨((i s.is0) :: ((i s.is1) :: (ra 10 []))), []⟩
noncomputable def ha5 {α : Type} (k : T0 → α) (e : Nat → α) (z : α) (p : ra4) (s : T0) : α := (sl (s.is1 != 0) (sl (s.is1 == 0) z (k ⟨s.is1, (Int.tmod s.is0 s.is1)⟩)) (e 1))
noncomputable def ma2 (p : ra4) (s : T0) : Stp T0 := ha5 .next .exit .fail p s
noncomputable def Za8 : Lo ra4 T0 := ⟨En Jb5, 0, de1, [1, 0, 4, 4], [0, 1], .p, [⟨((.s (.o (.int .i64))) :: ((.s (.o (.int .i64))) :: (ru2 10 []))), [], fun a H => (⟨⟩, ⟨(toI (slT a 0)), (toI (slT a 1))⟩)⟩], ma2, [(some 0, fun p s => ⟨((i s.is0) :: ((i s.is1) :: (ra 3 ((i s.is1) :: ((b (s.is1 != 0)) :: (ra 5 [])))))), []⟩)], jc3⟩
theorem jc4 : Za8.Ok := Lo.ok [] (by kernel_rfl) .nil rfl (.cons (fun a H => by kernel_rfl) .nil) fun p s => (.of @ha5 (fun F _ _ _ _ _ => by unfold ha5; (repeat' apply m8 (f := F)) <;> rfl) (by kernel_rfl))
noncomputable def Ea8 (x : Int) (y : Int) : Option (b7 × List b8) := let t1 := (lp (ma2 (⟨⟩ : ra4)) (⟨x, y⟩ : T0)); (sl (Nat.beq t1.1 1) (some ((i t1.2.is0), [])) none)
noncomputable def M3 (x : Int) (y : Int) : Int := I6 (one r1I) (Ea8 x y)
noncomputable def M4 (x : Int) (y : Int) : Bool := okO (one r1I) (Ea8 x y)
noncomputable def Tb4 : Sum := ga9 cI cI (fun x y => .guard (M4 x y) (.ret ((one r1I).enc (M3 x y), [])))
theorem Cc6 : i5 prog G 220 Tb4 := Za1 (bd De2 tc9) (one r1I) (o := Ea8) fun x y => xa1 (.s .p (.s (.b (.u Za8.ls)) .p)) [Za8.pr] (by kernel_rfl) (.cons jc4 .nil) (by kernel_rfl)
noncomputable def ed3 : List (Nat × Sum) := [(186, Ab3), (130, Fb7), (219, Tb3), (126, Lc3), (220, Tb4)]
theorem Sc1 : j8 prog G ed3 := ⟨Tb2, Mb6, Cc5, qd1, Cc6, trivial⟩
noncomputable def Za9 (x : Pln) (y : Pln) (z : Pln) : Option (b7 × List b8) := let t1 := (O0 y.n z.n); let t2 := (Ca9 x.n t1); let t3 := (M2 t1 x.b); let t4 := (O0 z.n x.n); let t5 := (M2 t4 y.b); let t6 := (Xa9 t3 t5); let t7 := (O0 x.n y.n); let t8 := (M2 t7 z.b); let t9 := (Xa9 t6 t8); let t10 := (M2 t9 (-1)); let t11 := (M3 (if (W (0 - t10.x)) > t10.x then (W (0 - t10.x)) else t10.x) (if (W (0 - t10.y)) > t10.y then (W (0 - t10.y)) else t10.y)); let t12 := (M3 (if (W (0 - t10.z)) > t10.z then (W (0 - t10.z)) else t10.z) (W (0 - t2))); let t13 := (M3 t11 t12); let t14 := (M3 (if (W (0 - t9.x)) > t9.x then (W (0 - t9.x)) else t9.x) (if (W (0 - t9.y)) > t9.y then (W (0 - t9.y)) else t9.y)); let t15 := (M3 (if (W (0 - t9.z)) > t9.z then (W (0 - t9.z)) else t9.z) t2); let t16 := (M3 t14 t15); (sl (t2 == 0) (some ((.tup [(.agg [(i 0), (i 0), (i 0), (i 0)]), (b false)]), [])) (sl (decide (t2 < 0)) (sl (M4 (if (W (0 - t10.x)) > t10.x then (W (0 - t10.x)) else t10.x) (if (W (0 - t10.y)) > t10.y then (W (0 - t10.y)) else t10.y)) (sl (M4 (if (W (0 - t10.z)) > t10.z then (W (0 - t10.z)) else t10.z) (W (0 - t2))) (sl (M4 t11 t12) (sl (t13 == 0) none (sl (t13 == 0) none (sl (t13 == 0) none (sl (t13 == 0) none (some ((.tup [(.agg [(i (W (Int.tdiv t10.x t13))), (i (W (Int.tdiv t10.y t13))), (i (W (Int.tdiv t10.z t13))), (i (W (Int.tdiv (W (0 - t2)) t13)))]), (b true)]), [])))))) none) none) none) (sl (M4 (if (W (0 - t9.x)) > t9.x then (W (0 - t9.x)) else t9.x) (if (W (0 - t9.y)) > t9.y then (W (0 - t9.y)) else t9.y)) (sl (M4 (if (W (0 - t9.z)) > t9.z then (W (0 - t9.z)) else t9.z) t2) (sl (M4 t14 t15) (sl (t16 == 0) none (sl (t16 == 0) none (sl (t16 == 0) none (sl (t16 == 0) none (some ((.tup [(.agg [(i (W (Int.tdiv t9.x t16))), (i (W (Int.tdiv t9.y t16))), (i (W (Int.tdiv t9.z t16))), (i (W (Int.tdiv t2 t16)))]), (b true)]), [])))))) none) none) none)))
noncomputable def ab0 (x : Pln) (y : Pln) (z : Pln) : Pt × Bool := I6 (two r1X r1B) (Za9 x y z)
noncomputable def ab1 (x : Pln) (y : Pln) (z : Pln) : Bool := okO (two r1X r1B) (Za9 x y z)
noncomputable def uc0 : Sum := Zb9 (N8 tP) (N8 tP) (N8 tP) (fun x y z => .guard (ab1 x y z) (.ret ((two r1X r1B).enc (ab0 x y z), [])))
theorem ed4 : i5 prog G 172 uc0 := ge5 (bd Be2 Sc1) (two r1X r1B) (o := Za9) fun x y z => r5 (by kernel_rfl)
noncomputable def Lc4 : List (Nat × Sum) := [(37, Mb5)]
theorem qd3 : j8 prog G Lc4 := ⟨gc2, trivial⟩
structure ab2 where
 c9 : List Pln
 g9 : Int
 c8 : Int
 i4 : Int
 e7 : Int
structure la2 where
 is5 : Int
noncomputable def ed5 (p : ab2) (s : la2) : St := ⟨((eL tP p.c9) :: (.unk :: (.unk :: ((.ptr 0 0 0 0) :: (.unk :: ((i s.is5) :: (ra 13 []))))))), [⟨0, 4, [[(i p.g9), (i p.c8), (i p.i4), (i p.e7)]], true, false, 0⟩]⟩
noncomputable def Ea9 {α : Type} (k : la2 → α) (e : Nat → α) (z : α) (p : ab2) (s : la2) : α := let t1 := (Za7 (gL tP p.c9 s.is5.toNat) (⟨p.g9, p.c8, p.i4, p.e7⟩ : Pt)); (sl (decide (s.is5 < (↑(List.length p.c9) : Int))) (sl (inB s.is5 (List.length p.c9)) (sl (decide (t1 < 0)) (e 1) (k ⟨(W (s.is5 + 1))⟩)) z) (e 2))
noncomputable def Na4 (p : ab2) (s : la2) : Stp la2 := Ea9 .next .exit .fail p s
noncomputable def Mb7 : Lo ab2 la2 := ⟨En Lc4, 0, be9, [1, 0, 1, 4, 4], [0, 3, 5], .p, [⟨((.s (.c 4 (nL tP))) :: ((.s (.o .unk)) :: ((.s (.o .unk)) :: ((.s (.o (.ptr 0 0 0 0))) :: ((.s (.o .unk)) :: ((.s (.o (.int .i64))) :: (ru2 13 []))))))), [⟨0, 4, true, (some [[(.o (.int .i64)), (.o (.int .i64)), (.o (.int .i64)), (.o (.int .i64))]])⟩], fun a H => (⟨(rL tP (slT a 0)), (toI (slT (rwT (elT H 0) 0) 0)), (toI (slT (rwT (elT H 0) 0) 1)), (toI (slT (rwT (elT H 0) 0) 2)), (toI (slT (rwT (elT H 0) 0) 3))⟩, ⟨(toI (slT a 5))⟩)⟩], Na4, [(none, fun p s => ⟨[(b false)], []⟩), (some 0, fun p s => ⟨((eL tP p.c9) :: (.unk :: (.unk :: ((.ptr 0 0 0 0) :: (.unk :: ((i s.is5) :: ((i s.is5) :: ((eL tP p.c9) :: ((i (↑(List.length p.c9) : Int)) :: ((b (decide (s.is5 < (↑(List.length p.c9) : Int)))) :: (ra 9 []))))))))))), [⟨0, 4, [[(i p.g9), (i p.c8), (i p.i4), (i p.e7)]], true, false, 0⟩]⟩)], ed5⟩
theorem ed6 : Mb7.Ok := Lo.ok [] (by kernel_rfl) .nil rfl (.cons (fun a H => by kernel_rfl) .nil) fun p s => (.of @Ea9 (fun F _ _ _ _ _ => by unfold Ea9; (repeat' apply m8 (f := F)) <;> rfl) (by kernel_rfl))
noncomputable def Ab4 (x : List Pln) (y : Pt) : Option (b7 × List b8) := let t1 := (lp (Na4 (⟨(rt tP x), y.px, y.py, y.pz, y.pw⟩ : ab2)) (⟨0⟩ : la2)); (sl ((cnE tP x) && true) (sl (Nat.beq t1.1 1) (some ((b false), [])) (sl (Nat.beq t1.1 2) (some ((b true), [])) none)) none)
noncomputable def ab3 (x : List Pln) (y : Pt) : Bool := I6 (one r1B) (Ab4 x y)
noncomputable def ab4 (x : List Pln) (y : Pt) : Bool := okO (one r1B) (Ab4 x y)
noncomputable def uc1 : Sum := ga9 (U3 tP) (N8 tX) (fun x y => .guard (ab4 x y) (.ret ((one r1B).enc (ab3 x y), [])))
theorem Lc5 : i5 prog G 110 uc1 := Za1 (bd ze3 qd3) (one r1B) (o := Ab4) fun x y => xa1 (.s .p (.s (.s .p (.b (.u Mb7.ls))) .p)) [Mb7.pr] (by kernel_rfl) (.cons ed6 .nil) (by kernel_rfl)
noncomputable def Tb5 : List (Nat × Sum) := []
theorem Cc7 : j8 prog G Tb5 := trivial
structure xa8 where
 z7 : List Pt
 g9 : Int
 c8 : Int
 i4 : Int
 e7 : Int
structure R6 where
 is5 : Int
noncomputable def uc2 (p : xa8) (s : R6) : St := ⟨((eL tX p.z7) :: (.unk :: (.unk :: ((.ptr 0 0 0 0) :: (.unk :: ((i s.is5) :: (ra 12 []))))))), [⟨0, 4, [[(i p.g9), (i p.c8), (i p.i4), (i p.e7)]], true, false, 0⟩]⟩
noncomputable def ma3 {α : Type} (k : R6 → α) (e : Nat → α) (z : α) (p : xa8) (s : R6) : α := (sl (decide (s.is5 < (↑(List.length p.z7) : Int))) (sl (inB s.is5 (List.length p.z7)) (sl (((gL tX p.z7 s.is5.toNat).px == p.g9) && (((gL tX p.z7 s.is5.toNat).py == p.c8) && (((gL tX p.z7 s.is5.toNat).pz == p.i4) && (((gL tX p.z7 s.is5.toNat).pw == p.e7) && true)))) (e 1) (k ⟨(W (s.is5 + 1))⟩)) z) (e 2))
noncomputable def ra5 (p : xa8) (s : R6) : Stp R6 := ma3 .next .exit .fail p s
noncomputable def jb1 : Lo xa8 R6 := ⟨En Tb5, 0, ce4, [1, 0, 1, 4, 4], [0, 3, 5], .p, [⟨((.s (.c 4 (nL tX))) :: ((.s (.o .unk)) :: ((.s (.o .unk)) :: ((.s (.o (.ptr 0 0 0 0))) :: ((.s (.o .unk)) :: ((.s (.o (.int .i64))) :: (ru2 12 []))))))), [⟨0, 4, true, (some [[(.o (.int .i64)), (.o (.int .i64)), (.o (.int .i64)), (.o (.int .i64))]])⟩], fun a H => (⟨(rL tX (slT a 0)), (toI (slT (rwT (elT H 0) 0) 0)), (toI (slT (rwT (elT H 0) 0) 1)), (toI (slT (rwT (elT H 0) 0) 2)), (toI (slT (rwT (elT H 0) 0) 3))⟩, ⟨(toI (slT a 5))⟩)⟩], ra5, [(none, fun p s => ⟨[(b true)], []⟩), (some 0, fun p s => ⟨((eL tX p.z7) :: (.unk :: (.unk :: ((.ptr 0 0 0 0) :: (.unk :: ((i s.is5) :: ((i s.is5) :: ((eL tX p.z7) :: ((i (↑(List.length p.z7) : Int)) :: ((b (decide (s.is5 < (↑(List.length p.z7) : Int)))) :: (ra 8 []))))))))))), [⟨0, 4, [[(i p.g9), (i p.c8), (i p.i4), (i p.e7)]], true, false, 0⟩]⟩)], uc2⟩
theorem uc3 : jb1.Ok := Lo.ok [] (by kernel_rfl) .nil rfl (.cons (fun a H => by kernel_rfl) .nil) fun p s => (.of @ma3 (fun F _ _ _ _ _ => by unfold ma3; (repeat' apply m8 (f := F)) <;> rfl) (by kernel_rfl))
noncomputable def Na5 (x : List Pt) (y : Pt) : Option (b7 × List b8) := let t1 := (lp (ra5 (⟨(rt tX x), y.px, y.py, y.pz, y.pw⟩ : xa8)) (⟨0⟩ : R6)); (sl ((cnE tX x) && true) (sl (Nat.beq t1.1 1) (some ((b true), [])) (sl (Nat.beq t1.1 2) (some ((b false), [])) none)) none)
noncomputable def Da0 (x : List Pt) (y : Pt) : Bool := I6 (one r1B) (Na5 x y)
noncomputable def Da1 (x : List Pt) (y : Pt) : Bool := okO (one r1B) (Na5 x y)
noncomputable def gc3 : Sum := ga9 (U3 tX) (N8 tX) (fun x y => .guard (Da1 x y) (.ret ((one r1B).enc (Da0 x y), [])))
theorem Sc2 : i5 prog G 173 gc3 := Za1 (bd Be3 Cc7) (one r1B) (o := Na5) fun x y => xa1 (.s .p (.s (.s .p (.b (.u jb1.ls))) .p)) [jb1.pr] (by kernel_rfl) (.cons uc3 .nil) (by kernel_rfl)
noncomputable def Fa0 : List (Nat × Sum) := [(172, uc0), (110, uc1), (173, gc3)]
theorem jc5 : j8 prog G Fa0 := ⟨ed4, Lc5, Sc2, trivial⟩
structure I9 where
 c9 : List Pln
 is4 : Int
 is5 : Int
structure p4 where
 ph : Nat
 is6 : Int
 ns3 : Nat
 eh0 : List (List b7)
noncomputable def Tb6 (p : I9) (s : p4) : St := ⟨((eL tP p.c9) :: (.unk :: (.unk :: ((.v (.slice none 0 0)) :: ((i p.is4) :: ((i p.is5) :: ((i s.is6) :: (ra 57 [])))))))), []⟩
noncomputable def Tb7 (p : I9) (s : p4) : St := ⟨((eL tP p.c9) :: (.unk :: (.unk :: ((.sl 0 0 s.ns3 0) :: ((i p.is4) :: ((i p.is5) :: ((i s.is6) :: (ra 57 [])))))))), [⟨54, 4, s.eh0, true, false, 0⟩]⟩
noncomputable def bc2 (p : I9) (s : p4) : St := (sel (Nat.beq s.ph 1) (Tb7 p s) (Tb6 p s))
noncomputable def M5 {α : Type} (k : p4 → α) (e : Nat → α) (z : α) (p : I9) (s : p4) : α := let t1 := (ab0 (gL tP p.c9 p.is4.toNat) (gL tP p.c9 p.is5.toNat) (gL tP p.c9 s.is6.toNat)); let t2 := (ab3 (rt tP p.c9) t1.1); let t3 := (Da0 [] t1.1); (sl (decide (s.is6 < (↑(List.length p.c9) : Int))) (sl (inB p.is4 (List.length p.c9)) (sl (inB p.is5 (List.length p.c9)) (sl (inB s.is6 (List.length p.c9)) (sl (ab1 (gL tP p.c9 p.is4.toNat) (gL tP p.c9 p.is5.toNat) (gL tP p.c9 s.is6.toNat)) (sl t1.2 (sl (okE tP p.c9) (sl (ab4 (rt tP p.c9) t1.1) (sl t2 (sl (Da1 [] t1.1) (sl (!t3) (k ⟨1, (W (s.is6 + 1)), 1, [[(i t1.1.px), (i t1.1.py), (i t1.1.pz), (i t1.1.pw)]]⟩) (k ⟨0, (W (s.is6 + 1)), 0, []⟩)) z) (k ⟨0, (W (s.is6 + 1)), 0, []⟩)) z) z) (k ⟨0, (W (s.is6 + 1)), 0, []⟩)) z) z) z) z) (e 1))
noncomputable def M6 {α : Type} (k : p4 → α) (e : Nat → α) (z : α) (p : I9) (s : p4) : α := let t1 := (ab0 (gL tP p.c9 p.is4.toNat) (gL tP p.c9 p.is5.toNat) (gL tP p.c9 s.is6.toNat)); let t2 := (ab3 (rt tP p.c9) t1.1); let t3 := (Da0 (slR tX s.eh0 0 s.ns3) t1.1); (sl (decide (s.is6 < (↑(List.length p.c9) : Int))) (sl (inB p.is4 (List.length p.c9)) (sl (inB p.is5 (List.length p.c9)) (sl (inB s.is6 (List.length p.c9)) (sl (ab1 (gL tP p.c9 p.is4.toNat) (gL tP p.c9 p.is5.toNat) (gL tP p.c9 s.is6.toNat)) (sl t1.2 (sl (okE tP p.c9) (sl (ab4 (rt tP p.c9) t1.1) (sl t2 (sl (okS tX s.eh0 0 s.ns3) (sl (Da1 (slR tX s.eh0 0 s.ns3) t1.1) (sl (!t3) (sl (Nat.beq s.ns3 (len s.eh0) && Nat.ble ((s.ns3 + 1) * 32) room) (k ⟨1, (W (s.is6 + 1)), (s.ns3 + 1), (app s.eh0 [[(i t1.1.px), (i t1.1.py), (i t1.1.pz), (i t1.1.pw)]])⟩) z) (k ⟨1, (W (s.is6 + 1)), s.ns3, s.eh0⟩)) z) z) (k ⟨1, (W (s.is6 + 1)), s.ns3, s.eh0⟩)) z) z) (k ⟨1, (W (s.is6 + 1)), s.ns3, s.eh0⟩)) z) z) z) z) (e 2))
noncomputable def K5 (p : I9) (s : p4) : Stp p4 := (sel (Nat.beq s.ph 1) (M6 .next .exit .fail p s) (M5 .next .exit .fail p s))
noncomputable def Sa0 : Lo I9 p4 := ⟨En Fa0, 0, Vd0, [1, 1, 0, 1, 4, 4, 1, 0, 4, 1, 4, 4, 1, 0, 4, 1, 4, 4], [0, 3, 4, 5, 6], .p, [⟨((.s (.c 4 (nL tP))) :: ((.s (.o .unk)) :: ((.s (.o .unk)) :: ((.s (.o .nil)) :: ((.s (.o (.int .i64))) :: ((.s (.o (.int .i64))) :: ((.s (.o (.int .i64))) :: (ru2 57 [])))))))), [], fun a H => (⟨(rL tP (slT a 0)), (toI (slT a 4)), (toI (slT a 5))⟩, ⟨0, (toI (slT a 6)), 0, []⟩)⟩, ⟨((.s (.c 4 (nL tP))) :: ((.s (.o .unk)) :: ((.s (.o .unk)) :: ((.s (.o (.sl 0 0 (some 0) none))) :: ((.s (.o (.int .i64))) :: ((.s (.o (.int .i64))) :: ((.s (.o (.int .i64))) :: (ru2 57 [])))))))), [⟨54, 4, true, none⟩], fun a H => (⟨(rL tP (slT a 0)), (toI (slT a 4)), (toI (slT a 5))⟩, ⟨1, (toI (slT a 6)), (slN (slT a 3)), (elT H 0)⟩)⟩], K5, [(some 4, fun p s => ⟨((eL tP p.c9) :: (.unk :: (.unk :: ((.v (.slice none 0 0)) :: ((i p.is4) :: ((i p.is5) :: ((i s.is6) :: (ra 18 ((i s.is6) :: ((eL tP p.c9) :: ((i (↑(List.length p.c9) : Int)) :: ((b (decide (s.is6 < (↑(List.length p.c9) : Int)))) :: (ra 35 []))))))))))))), []⟩), (some 4, fun p s => ⟨((eL tP p.c9) :: (.unk :: (.unk :: ((.sl 0 0 s.ns3 0) :: ((i p.is4) :: ((i p.is5) :: ((i s.is6) :: (ra 18 ((i s.is6) :: ((eL tP p.c9) :: ((i (↑(List.length p.c9) : Int)) :: ((b (decide (s.is6 < (↑(List.length p.c9) : Int)))) :: (ra 35 []))))))))))))), [⟨54, 4, s.eh0, true, false, 0⟩]⟩)], bc2⟩
theorem bc3 : Sa0.Ok := Lo.ok [] (by kernel_rfl) .nil rfl (.cons (fun a H => by kernel_rfl) (.cons (fun a H => by kernel_rfl) .nil)) fun p s => (.sel (Nat.beq s.ph 1) (.of @M6 (fun F _ _ _ _ _ => by unfold M6; (repeat' apply m8 (f := F)) <;> rfl) (by kernel_rfl)) (.of @M5 (fun F _ _ _ _ _ => by unfold M5; (repeat' apply m8 (f := F)) <;> rfl) (by kernel_rfl)))
structure J0 where
 is4 : Int
structure q7 where
 ph : Nat
 c9 : List Pln
 is5 : Int
 ns3 : Nat
 eh0 : List (List b7)
noncomputable def Tb8 (p : J0) (s : q7) : St := ⟨((eL tP s.c9) :: (.unk :: (.unk :: ((.v (.slice none 0 0)) :: ((i p.is4) :: ((i s.is5) :: (ra 58 []))))))), []⟩
noncomputable def Tb9 (p : J0) (s : q7) : St := ⟨((eL tP s.c9) :: (.unk :: (.unk :: ((.sl 0 0 s.ns3 0) :: ((i p.is4) :: ((i s.is5) :: (ra 58 []))))))), [⟨54, 4, s.eh0, true, false, 0⟩]⟩
noncomputable def bc4 (p : J0) (s : q7) : St := (sel (Nat.beq s.ph 1) (Tb9 p s) (Tb8 p s))
noncomputable def M7 {α : Type} (k : q7 → α) (e : Nat → α) (z : α) (p : J0) (s : q7) : α := let t1 := (lp (K5 (⟨(rt tP s.c9), p.is4, s.is5⟩ : I9)) (⟨0, (W (s.is5 + 1)), 0, []⟩ : p4)); (sl (decide (s.is5 < (↑(List.length s.c9) : Int))) (sl ((cnE tP s.c9) && true) (sl (Nat.beq t1.1 1) (k ⟨0, (rt tP s.c9), (W (s.is5 + 1)), 0, []⟩) (sl (Nat.beq t1.1 2) (k ⟨1, (rt tP s.c9), (W (s.is5 + 1)), t1.2.ns3, t1.2.eh0⟩) z)) z) (e 1))
noncomputable def M8 {α : Type} (k : q7 → α) (e : Nat → α) (z : α) (p : J0) (s : q7) : α := let t1 := (lp (K5 (⟨(rt tP s.c9), p.is4, s.is5⟩ : I9)) (⟨1, (W (s.is5 + 1)), s.ns3, s.eh0⟩ : p4)); (sl (decide (s.is5 < (↑(List.length s.c9) : Int))) (sl ((cnE tP s.c9) && true) (sl (Nat.beq t1.1 1) (k ⟨0, (rt tP s.c9), (W (s.is5 + 1)), 0, []⟩) (sl (Nat.beq t1.1 2) (k ⟨1, (rt tP s.c9), (W (s.is5 + 1)), t1.2.ns3, t1.2.eh0⟩) z)) z) (e 2))
noncomputable def G4 (p : J0) (s : q7) : Stp q7 := (sel (Nat.beq s.ph 1) (M8 .next .exit .fail p s) (M7 .next .exit .fail p s))
noncomputable def Sa1 : Lo J0 q7 := ⟨En Fa0, 0, Vd0, [1, 1, 0, 1, 4, 4, 1, 0, 4, 1, 4, 4], [0, 3, 4, 5], (.s .p (.s (.b (.s .p (.b (.u Sa0.ls)))) .p)), [⟨((.s (.c 4 (nL tP))) :: ((.s (.o .unk)) :: ((.s (.o .unk)) :: ((.s (.o .nil)) :: ((.s (.o (.int .i64))) :: ((.s (.o (.int .i64))) :: (ru2 58 []))))))), [], fun a H => (⟨(toI (slT a 4))⟩, ⟨0, (rL tP (slT a 0)), (toI (slT a 5)), 0, []⟩)⟩, ⟨((.s (.c 4 (nL tP))) :: ((.s (.o .unk)) :: ((.s (.o .unk)) :: ((.s (.o (.sl 0 0 (some 0) none))) :: ((.s (.o (.int .i64))) :: ((.s (.o (.int .i64))) :: (ru2 58 []))))))), [⟨54, 4, true, none⟩], fun a H => (⟨(toI (slT a 4))⟩, ⟨1, (rL tP (slT a 0)), (toI (slT a 5)), (slN (slT a 3)), (elT H 0)⟩)⟩], G4, [(some 2, fun p s => ⟨((eL tP s.c9) :: (.unk :: (.unk :: ((.v (.slice none 0 0)) :: ((i p.is4) :: ((i s.is5) :: (ra 11 ((i s.is5) :: ((eL tP s.c9) :: ((i (↑(List.length s.c9) : Int)) :: ((b (decide (s.is5 < (↑(List.length s.c9) : Int)))) :: (ra 43 [])))))))))))), []⟩), (some 2, fun p s => ⟨((eL tP s.c9) :: (.unk :: (.unk :: ((.sl 0 0 s.ns3 0) :: ((i p.is4) :: ((i s.is5) :: (ra 11 ((i s.is5) :: ((eL tP s.c9) :: ((i (↑(List.length s.c9) : Int)) :: ((b (decide (s.is5 < (↑(List.length s.c9) : Int)))) :: (ra 43 [])))))))))))), [⟨54, 4, s.eh0, true, false, 0⟩]⟩)], bc4⟩
theorem bc5 : Sa1.Ok := Lo.ok [Sa0.pr] (by kernel_rfl) (.cons bc3 .nil) rfl (.cons (fun a H => by kernel_rfl) (.cons (fun a H => by kernel_rfl) .nil)) fun p s => (.sel (Nat.beq s.ph 1) (.of @M8 (fun F _ _ _ _ _ => by unfold M8; (repeat' apply m8 (f := F)) <;> rfl) (by kernel_rfl)) (.of @M7 (fun F _ _ _ _ _ => by unfold M7; (repeat' apply m8 (f := F)) <;> rfl) (by kernel_rfl)))
structure O1 where
structure w4 where
 ph : Nat
 c9 : List Pln
 is4 : Int
 ns3 : Nat
 eh0 : List (List b7)
noncomputable def Ub0 (p : O1) (s : w4) : St := ⟨((eL tP s.c9) :: (.unk :: (.unk :: ((.v (.slice none 0 0)) :: ((i s.is4) :: (ra 59 [])))))), []⟩
noncomputable def Ub1 (p : O1) (s : w4) : St := ⟨((eL tP s.c9) :: (.unk :: (.unk :: ((.sl 0 0 s.ns3 0) :: ((i s.is4) :: (ra 59 [])))))), [⟨54, 4, s.eh0, true, false, 0⟩]⟩
noncomputable def bc6 (p : O1) (s : w4) : St := (sel (Nat.beq s.ph 1) (Ub1 p s) (Ub0 p s))
noncomputable def M9 {α : Type} (k : w4 → α) (e : Nat → α) (z : α) (p : O1) (s : w4) : α := let t1 := (lp (G4 (⟨s.is4⟩ : J0)) (⟨0, (rt tP s.c9), (W (s.is4 + 1)), 0, []⟩ : q7)); (sl (decide (s.is4 < (↑(List.length s.c9) : Int))) (sl ((cnE tP s.c9) && true) (sl (Nat.beq t1.1 1) (k ⟨0, t1.2.c9, (W (s.is4 + 1)), 0, []⟩) (sl (Nat.beq t1.1 2) (k ⟨1, t1.2.c9, (W (s.is4 + 1)), t1.2.ns3, t1.2.eh0⟩) z)) z) (e 1))
noncomputable def N0 {α : Type} (k : w4 → α) (e : Nat → α) (z : α) (p : O1) (s : w4) : α := let t1 := (lp (G4 (⟨s.is4⟩ : J0)) (⟨1, (rt tP s.c9), (W (s.is4 + 1)), s.ns3, s.eh0⟩ : q7)); (sl (decide (s.is4 < (↑(List.length s.c9) : Int))) (sl ((cnE tP s.c9) && true) (sl (Nat.beq t1.1 1) (k ⟨0, t1.2.c9, (W (s.is4 + 1)), 0, []⟩) (sl (Nat.beq t1.1 2) (k ⟨1, t1.2.c9, (W (s.is4 + 1)), t1.2.ns3, t1.2.eh0⟩) z)) z) (e 2))
noncomputable def K6 (p : O1) (s : w4) : Stp w4 := (sel (Nat.beq s.ph 1) (N0 .next .exit .fail p s) (M9 .next .exit .fail p s))
noncomputable def Sa2 : Lo O1 w4 := ⟨En Fa0, 0, Vd0, [1, 1, 0, 1, 4, 4], [0, 3, 4], (.s .p (.s (.b (.s .p (.b (.u Sa1.ls)))) .p)), [⟨((.s (.c 4 (nL tP))) :: ((.s (.o .unk)) :: ((.s (.o .unk)) :: ((.s (.o .nil)) :: ((.s (.o (.int .i64))) :: (ru2 59 [])))))), [], fun a H => (⟨⟩, ⟨0, (rL tP (slT a 0)), (toI (slT a 4)), 0, []⟩)⟩, ⟨((.s (.c 4 (nL tP))) :: ((.s (.o .unk)) :: ((.s (.o .unk)) :: ((.s (.o (.sl 0 0 (some 0) none))) :: ((.s (.o (.int .i64))) :: (ru2 59 [])))))), [⟨54, 4, true, none⟩], fun a H => (⟨⟩, ⟨1, (rL tP (slT a 0)), (toI (slT a 4)), (slN (slT a 3)), (elT H 0)⟩)⟩], K6, [(some 0, fun p s => ⟨((eL tP s.c9) :: (.unk :: (.unk :: ((.v (.slice none 0 0)) :: ((i s.is4) :: (ra 4 ((i s.is4) :: ((eL tP s.c9) :: ((i (↑(List.length s.c9) : Int)) :: ((b (decide (s.is4 < (↑(List.length s.c9) : Int)))) :: (ra 51 []))))))))))), []⟩), (some 0, fun p s => ⟨((eL tP s.c9) :: (.unk :: (.unk :: ((.sl 0 0 s.ns3 0) :: ((i s.is4) :: (ra 4 ((i s.is4) :: ((eL tP s.c9) :: ((i (↑(List.length s.c9) : Int)) :: ((b (decide (s.is4 < (↑(List.length s.c9) : Int)))) :: (ra 51 []))))))))))), [⟨54, 4, s.eh0, true, false, 0⟩]⟩)], bc6⟩
theorem bc7 : Sa2.Ok := Lo.ok [Sa1.pr] (by kernel_rfl) (.cons bc5 .nil) rfl (.cons (fun a H => by kernel_rfl) (.cons (fun a H => by kernel_rfl) .nil)) fun p s => (.sel (Nat.beq s.ph 1) (.of @N0 (fun F _ _ _ _ _ => by unfold N0; (repeat' apply m8 (f := F)) <;> rfl) (by kernel_rfl)) (.of @M9 (fun F _ _ _ _ _ => by unfold M9; (repeat' apply m8 (f := F)) <;> rfl) (by kernel_rfl)))
noncomputable def xa9 (x : List Pln) : Option (b7 × List b8) := let t1 := (lp (K6 (⟨⟩ : O1)) (⟨0, (rt tP x), 0, 0, []⟩ : w4)); (sl ((cnE tP x) && true) (sl (Nat.beq t1.1 1) (some ((.v (.slice none 0 0)), [])) (sl (Nat.beq t1.1 2) (some ((.sl 0 0 t1.2.ns3 0), [⟨54, 4, t1.2.eh0, true, false, 0⟩])) none)) none)
noncomputable def ya0 (x : List Pln) : List Pt := I6 (one (r1L tX)) (xa9 x)
noncomputable def ya1 (x : List Pln) : Bool := okO (one (r1L tX)) (xa9 x)
noncomputable def jb2 : Sum := da4 (U3 tP) (fun x => .guard (ya1 x) (.ret ((one (r1L tX)).enc (ya0 x), [])))
theorem Ab5 : i5 prog G 90 jb2 := xa0 (bd b90 jc5) (one (r1L tX)) (o := xa9) fun x => xa1 (.s .p (.s .p (.s (.s .p (.b (.u Sa2.ls))) .p))) [Sa2.pr] (by kernel_rfl) (.cons bc7 .nil) (by kernel_rfl)
noncomputable def hb8 : List (Nat × Sum) := []
theorem Mb8 : j8 prog G hb8 := trivial
@[reducible] noncomputable def va2 : Sum := j7 (En hb8) ce1
theorem Fa1 : i5 prog G 166 va2 := bd Ae7 Mb8
noncomputable def jc6 : List (Nat × Sum) := []
theorem bc8 : j8 prog G jc6 := trivial
noncomputable def ra6 (x : Int) : Option (b7 × List b8) := (sl (decide (x < 0)) (some ((i (W (0 - x))), [])) (some ((i x), [])))
noncomputable def ha6 (x : Int) : Int := I6 (one r1I) (ra6 x)
noncomputable def ha7 (x : Int) : Bool := okO (one r1I) (ra6 x)
noncomputable def Ab6 : Sum := da4 cI (fun x => .guard (ha7 x) (.ret ((one r1I).enc (ha6 x), [])))
theorem jc7 : i5 prog G 215 Ab6 := xa0 (bd Ce8 bc8) (one r1I) (o := ra6) fun x => r5 (by kernel_rfl)
noncomputable def gc4 : List (Nat × Sum) := [(215, Ab6), (166, va2)]
theorem Sc3 : j8 prog G gc4 := ⟨jc7, Fa1, trivial⟩
structure da6 where
 is6 : Int
 g9 : Int
 c8 : Int
 i4 : Int
 Y8 : Int
 Y9 : Int
 Z0 : Int
structure N1 where
 is5 : Int
 is7 : Int
noncomputable def Cc8 (p : da6) (s : N1) : St := ⟨(.unk :: ((.ptr 0 0 0 0) :: ((.ptr 1 0 0 0) :: (.unk :: ((.ptr 2 0 0 0) :: ((i s.is5) :: ((i p.is6) :: ((i s.is7) :: (ra 38 []))))))))), [⟨0, 3, [[(i p.g9), (i p.c8), (i p.i4)]], true, false, 0⟩, ⟨0, 3, [[(i 0), (i 0), (i 0)]], true, false, 0⟩, ⟨0, 3, [[(i p.Y8), (i p.Y9), (i p.Z0)]], true, false, 0⟩]⟩
noncomputable def ra7 {α : Type} (k : N1 → α) (e : Nat → α) (z : α) (p : da6) (s : N1) : α := (sl (decide (s.is7 > 0)) (sl (s.is7 == 0) z (k ⟨s.is7, (Int.tmod s.is5 s.is7)⟩)) (e 1))
noncomputable def Z3 (p : da6) (s : N1) : Stp N1 := ra7 .next .exit .fail p s
noncomputable def qb5 : Lo da6 N1 := ⟨En gc4, 0, ce2, [1, 1, 1, 0, 1, 4, 4, 1, 0, 4, 1, 1, 4, 4], [1, 2, 4, 5, 6, 7], .p, [⟨((.s (.o .unk)) :: ((.s (.o (.ptr 0 0 0 0))) :: ((.s (.o (.ptr 1 0 0 0))) :: ((.s (.o .unk)) :: ((.s (.o (.ptr 2 0 0 0))) :: ((.s (.o (.int .i64))) :: ((.s (.o (.int .i64))) :: ((.s (.o (.int .i64))) :: (ru2 38 []))))))))), [⟨0, 3, true, (some [[(.o (.int .i64)), (.o (.int .i64)), (.o (.int .i64))]])⟩, ⟨0, 3, true, (some [[(.o (.lit .i64 0)), (.o (.lit .i64 0)), (.o (.lit .i64 0))]])⟩, ⟨0, 3, true, (some [[(.o (.int .i64)), (.o (.int .i64)), (.o (.int .i64))]])⟩], fun a H => (⟨(toI (slT a 6)), (toI (slT (rwT (elT H 0) 0) 0)), (toI (slT (rwT (elT H 0) 0) 1)), (toI (slT (rwT (elT H 0) 0) 2)), (toI (slT (rwT (elT H 2) 0) 0)), (toI (slT (rwT (elT H 2) 0) 1)), (toI (slT (rwT (elT H 2) 0) 2))⟩, ⟨(toI (slT a 5)), (toI (slT a 7))⟩)⟩], Z3, [(some 2, fun p s => ⟨(.unk :: ((.ptr 0 0 0 0) :: ((.ptr 1 0 0 0) :: (.unk :: ((.ptr 2 0 0 0) :: ((i s.is5) :: ((i p.is6) :: ((i s.is7) :: (ra 15 ((i s.is7) :: ((b (decide (s.is7 > 0))) :: (ra 21 [])))))))))))), [⟨0, 3, [[(i p.g9), (i p.c8), (i p.i4)]], true, false, 0⟩, ⟨0, 3, [[(i 0), (i 0), (i 0)]], true, false, 0⟩, ⟨0, 3, [[(i p.Y8), (i p.Y9), (i p.Z0)]], true, false, 0⟩]⟩)], Cc8⟩
theorem Cc9 : qb5.Ok := Lo.ok [] (by kernel_rfl) .nil rfl (.cons (fun a H => by kernel_rfl) .nil) fun p s => (.of @ra7 (fun F _ _ _ _ _ => by unfold ra7; (repeat' apply m8 (f := F)) <;> rfl) (by kernel_rfl))
noncomputable def ab5 (x : V3) : Option (b7 × List b8) := let t1 := (ha6 x.x); let t2 := (lp (Z3 (⟨0, x.x, x.y, x.z, x.x, x.y, x.z⟩ : da6)) (⟨0, t1⟩ : N1)); let t3 := (ha6 x.y); let t4 := (lp (Z3 (⟨1, x.x, x.y, x.z, x.x, x.y, x.z⟩ : da6)) (⟨t2.2.is5, t3⟩ : N1)); let t5 := (ha6 x.z); let t6 := (lp (Z3 (⟨2, x.x, x.y, x.z, x.x, x.y, x.z⟩ : da6)) (⟨t4.2.is5, t5⟩ : N1)); (sl (x.x == (-9223372036854775808)) (some ((.tup [(.agg [(i 0), (i 0), (i 0)]), (i 0)]), [])) (sl (ha7 x.x) (sl (Nat.beq t2.1 1) (sl (x.y == (-9223372036854775808)) (some ((.tup [(.agg [(i 0), (i 0), (i 0)]), (i 0)]), [])) (sl (ha7 x.y) (sl (Nat.beq t4.1 1) (sl (x.z == (-9223372036854775808)) (some ((.tup [(.agg [(i 0), (i 0), (i 0)]), (i 0)]), [])) (sl (ha7 x.z) (sl (Nat.beq t6.1 1) (sl (t6.2.is5 == 0) (some ((.tup [(.agg [(i 0), (i 0), (i 0)]), (i 0)]), [])) (sl (t6.2.is5 == 0) none (sl (t6.2.is5 == 0) none (sl (t6.2.is5 == 0) none (some ((.tup [(.agg [(i (W (Int.tdiv x.x t6.2.is5))), (i (W (Int.tdiv x.y t6.2.is5))), (i (W (Int.tdiv x.z t6.2.is5)))]), (i t6.2.is5)]), [])))))) none) none)) none) none)) none) none))
noncomputable def Ca1 (x : V3) : V3 × Int := I6 (two r1V r1I) (ab5 x)
noncomputable def ab6 (x : V3) : Bool := okO (two r1V r1I) (ab5 x)
noncomputable def Mb9 : Sum := da4 (N8 tV) (fun x => .guard (ab6 x) (.ret ((two r1V r1I).enc (Ca1 x), [])))
theorem gc5 : i5 prog G 167 Mb9 := xa0 (bd Ae8 Sc3) (two r1V r1I) (o := ab5) fun x => xa1 (.s .p (.s .p (.s .p (.s (.s .p (.b (.l (.s .p (.s (.b (.s .p (.s .p (.b (.u qb5.ls))))) .p))))) .p)))) [qb5.pr] (by kernel_rfl) (.cons Cc9 .nil) (by kernel_rfl)
noncomputable def Sc4 : List (Nat × Sum) := [(167, Mb9), (166, va2)]
theorem Dc0 : j8 prog G Sc4 := ⟨gc5, Fa1, trivial⟩
noncomputable def Na6 (x : Pln) : Option (b7 × List b8) := let t1 := (Ca1 x.n); (sl (decide (x.n.x < (-4608))) (some ((b false), [])) (sl (decide (x.n.x > 4608)) (some ((b false), [])) (sl (decide (x.n.y < (-4608))) (some ((b false), [])) (sl (decide (x.n.y > 4608)) (some ((b false), [])) (sl (decide (x.n.z < (-4608))) (some ((b false), [])) (sl (decide (x.n.z > 4608)) (some ((b false), [])) (sl (ab6 x.n) (sl (t1.2 == 1) (sl (decide (x.b ≥ (-2097152))) (some ((b (decide (x.b ≤ 2097152))), [])) (some ((b false), []))) (some ((b false), []))) none)))))))
noncomputable def Na7 (x : Pln) : Bool := I6 (one r1B) (Na6 x)
noncomputable def Na8 (x : Pln) : Bool := okO (one r1B) (Na6 x)
noncomputable def Ab7 : Sum := da4 (N8 tP) (fun x => .guard (Na8 x) (.ret ((one r1B).enc (Na7 x), [])))
theorem Ub2 : i5 prog G 86 Ab7 := xa0 (bd b86 Dc0) (one r1B) (o := Na6) fun x => r5 (by kernel_rfl)
noncomputable def Ub3 : List (Nat × Sum) := [(86, Ab7)]
theorem Dc1 : j8 prog G Ub3 := ⟨Ub2, trivial⟩
structure ya2 where
 c9 : List Pln
structure R7 where
 is3 : Int
noncomputable def uc4 (p : ya2) (s : R7) : St := ⟨((eL tP p.c9) :: (.unk :: (.unk :: ((i s.is3) :: (ra 15 []))))), []⟩
noncomputable def ma4 {α : Type} (k : R7 → α) (e : Nat → α) (z : α) (p : ya2) (s : R7) : α := let t1 := (Na7 (gL tP p.c9 s.is3.toNat)); (sl (decide (s.is3 < (↑(List.length p.c9) : Int))) (sl (inB s.is3 (List.length p.c9)) (sl (Na8 (gL tP p.c9 s.is3.toNat)) (sl (!t1) (e 1) (k ⟨(W (s.is3 + 1))⟩)) z) z) (e 2))
noncomputable def ra8 (p : ya2) (s : R7) : Stp R7 := ma4 .next .exit .fail p s
noncomputable def jb3 : Lo ya2 R7 := ⟨En Ub3, 0, ne9, [1, 1, 0, 1, 4, 4], [0, 3], .p, [⟨((.s (.c 4 (nL tP))) :: ((.s (.o .unk)) :: ((.s (.o .unk)) :: ((.s (.o (.int .i64))) :: (ru2 15 []))))), [], fun a H => (⟨(rL tP (slT a 0))⟩, ⟨(toI (slT a 3))⟩)⟩], ra8, [(none, fun p s => ⟨[(i 12)], []⟩), (some 0, fun p s => ⟨((eL tP p.c9) :: (.unk :: (.unk :: ((i s.is3) :: (ra 3 ((i s.is3) :: ((eL tP p.c9) :: ((i (↑(List.length p.c9) : Int)) :: ((b (decide (s.is3 < (↑(List.length p.c9) : Int)))) :: (ra 8 [])))))))))), []⟩)], uc4⟩
theorem uc5 : jb3.Ok := Lo.ok [] (by kernel_rfl) .nil rfl (.cons (fun a H => by kernel_rfl) .nil) fun p s => (.of @ma4 (fun F _ _ _ _ _ => by unfold ma4; (repeat' apply m8 (f := F)) <;> rfl) (by kernel_rfl))
noncomputable def Na9 (x : List Pln) : Option (b7 × List b8) := let t1 := (lp (ra8 (⟨(rt tP x)⟩ : ya2)) (⟨0⟩ : R7)); (sl (decide ((↑(List.length x) : Int) > 48)) (some ((i 2), [])) (sl ((cnE tP x) && true) (sl (Nat.beq t1.1 1) (some ((i 12), [])) (sl (Nat.beq t1.1 2) (some ((i 0), [])) none)) none))
noncomputable def ka3 (x : List Pln) : Int := I6 (one r1I) (Na9 x)
noncomputable def ka4 (x : List Pln) : Bool := okO (one r1I) (Na9 x)
noncomputable def Oa0 : Sum := da4 (U3 tP) (fun x => .guard (ka4 x) (.ret ((one r1I).enc (ka3 x), [])))
theorem Va5 : i5 prog G 16 Oa0 := xa0 (bd b16 Dc1) (one r1I) (o := Na9) fun x => xa1 (.s .p (.s .p (.s (.s .p (.b (.u jb3.ls))) .p))) [jb3.pr] (by kernel_rfl) (.cons uc5 .nil) (by kernel_rfl)
noncomputable def qd4 : List (Nat × Sum) := []
theorem ed7 : j8 prog G qd4 := trivial
noncomputable def Fb8 (x : V3) (y : V3) : Option (b7 × List b8) := (some ((.sl 0 0 6 0), [⟨50, 4, [[(i 1), (i 0), (i 0), (i y.x)], [(i (-1)), (i 0), (i 0), (i (W (0 - x.x)))], [(i 0), (i 1), (i 0), (i y.y)], [(i 0), (i (-1)), (i 0), (i (W (0 - x.y)))], [(i 0), (i 0), (i 1), (i y.z)], [(i 0), (i 0), (i (-1)), (i (W (0 - x.z)))]], true, false, 0⟩]))
noncomputable def mb8 (x : V3) (y : V3) : List Pln := I6 (one (r1L tP)) (Fb8 x y)
noncomputable def Ya0 (x : V3) (y : V3) : Bool := okO (one (r1L tP)) (Fb8 x y)
noncomputable def bc9 : Sum := ga9 (N8 tV) (N8 tV) (fun x y => .guard (Ya0 x y) (.ret ((one (r1L tP)).enc (mb8 x y), [])))
theorem uc6 : i5 prog G 111 bc9 := Za1 (bd re8 ed7) (one (r1L tP)) (o := Fb8) fun x y => r5 (by kernel_rfl)
noncomputable def qd5 : List (Nat × Sum) := [(111, bc9)]
theorem ed8 : j8 prog G qd5 := ⟨uc6, trivial⟩
noncomputable def mb9 (x : List Pln) : Option (b7 × List b8) := let t1 := (mb8 (⟨(-24), (-24), (-24)⟩ : V3) (⟨24, 24, 24⟩ : V3)); (sl (Nat.beq (len (l0 (fun k => (tP).row (gL tP x k)) (List.range (List.length x)))) 0) (sl (Ya0 (⟨(-24), (-24), (-24)⟩ : V3) (⟨24, 24, 24⟩ : V3)) (sl (Nat.beq (len (l0 (fun k => (tP).row (gL tP t1 k)) (List.range (List.length t1)))) 0) (some ((.sl 0 0 0 0), [⟨50, 4, [], true, false, 0⟩])) (sl (Nat.beq 0 0 && Nat.ble ((0 + (len (l0 (fun k => (tP).row (gL tP t1 k)) (List.range (List.length t1))))) * 32) room) (some ((.sl 0 0 (0 + (len (l0 (fun k => (tP).row (gL tP t1 k)) (List.range (List.length t1))))) 0), [⟨50, 4, (app [] (l0 (fun k => (tP).row (gL tP t1 k)) (List.range (List.length t1)))), true, false, 0⟩])) none)) none) (sl (Nat.beq 0 0 && Nat.ble ((0 + (len (l0 (fun k => (tP).row (gL tP x k)) (List.range (List.length x))))) * 32) room) (sl (Ya0 (⟨(-24), (-24), (-24)⟩ : V3) (⟨24, 24, 24⟩ : V3)) (sl (Nat.beq (len (l0 (fun k => (tP).row (gL tP t1 k)) (List.range (List.length t1)))) 0) (some ((.sl 0 0 (0 + (len (l0 (fun k => (tP).row (gL tP x k)) (List.range (List.length x))))) 0), [⟨50, 4, (app [] (l0 (fun k => (tP).row (gL tP x k)) (List.range (List.length x)))), true, false, 0⟩])) (sl (Nat.beq (0 + (len (l0 (fun k => (tP).row (gL tP x k)) (List.range (List.length x))))) (len (app [] (l0 (fun k => (tP).row (gL tP x k)) (List.range (List.length x))))) && Nat.ble (((0 + (len (l0 (fun k => (tP).row (gL tP x k)) (List.range (List.length x))))) + (len (l0 (fun k => (tP).row (gL tP t1 k)) (List.range (List.length t1))))) * 32) room) (some ((.sl 0 0 ((0 + (len (l0 (fun k => (tP).row (gL tP x k)) (List.range (List.length x))))) + (len (l0 (fun k => (tP).row (gL tP t1 k)) (List.range (List.length t1))))) 0), [⟨50, 4, (app (app [] (l0 (fun k => (tP).row (gL tP x k)) (List.range (List.length x)))) (l0 (fun k => (tP).row (gL tP t1 k)) (List.range (List.length t1)))), true, false, 0⟩])) none)) none) none))
noncomputable def va3 (x : List Pln) : List Pln := I6 (one (r1L tP)) (mb9 x)
noncomputable def va4 (x : List Pln) : Bool := okO (one (r1L tP)) (mb9 x)
noncomputable def Fb9 : Sum := da4 (U3 tP) (fun x => .guard (va4 x) (.ret ((one (r1L tP)).enc (va3 x), [])))
theorem Nb0 : i5 prog G 91 Fb9 := xa0 (bd b91 ed8) (one (r1L tP)) (o := mb9) fun x => r5 (by kernel_rfl)
noncomputable def Dc2 : List (Nat × Sum) := [(16, Oa0), (91, Fb9), (90, jb2)]
theorem uc7 : j8 prog G Dc2 := ⟨Va5, Nb0, Ab5, trivial⟩
noncomputable def Fa2 (x : List Pln) : Option (b7 × List b8) := let t1 := (ka3 (rt tP x)); let t2 := (va3 (rt tP x)); let t3 := (ya0 (rt tP t2)); (sl (okE tP x) (sl (ka4 (rt tP x)) (sl (t1 != 0) (some ((.v (.slice none 0 0)), [])) (sl (okE tP x) (sl (va4 (rt tP x)) (sl (okE tP t2) (sl (ya1 (rt tP t2)) (some ((eL tX t3), [])) none) none) none) none)) none) none)
noncomputable def Va6 (x : List Pln) : List Pt := I6 (one (r1L tX)) (Fa2 x)
noncomputable def Va7 (x : List Pln) : Bool := okO (one (r1L tX)) (Fa2 x)
noncomputable def Ub4 : Sum := da4 (U3 tP) (fun x => .guard (Va7 x) (.ret ((one (r1L tX)).enc (Va6 x), [])))
theorem Dc3 : i5 prog G 19 Ub4 := xa0 (bd b19 uc7) (one (r1L tX)) (o := Fa2) fun x => r5 (by kernel_rfl)
noncomputable def Ab8 : List (Nat × Sum) := [(90, jb2), (37, Mb5)]
theorem Sc5 : j8 prog G Ab8 := ⟨Ab5, gc2, trivial⟩
structure Fa3 where
 c9 : List Pln
 ib2 : List Pt
 is4 : Int
structure da7 where
 bs5 : Bool
 is6 : Int
noncomputable def Dc4 (p : Fa3) (s : da7) : St := ⟨((eL tP p.c9) :: (.unk :: (.unk :: ((eL tX p.ib2) :: ((i p.is4) :: ((b s.bs5) :: ((i s.is6) :: (ra 29 [])))))))), []⟩
noncomputable def ra9 {α : Type} (k : da7 → α) (e : Nat → α) (z : α) (p : Fa3) (s : da7) : α := let t1 := (Za7 (gL tP p.c9 p.is4.toNat) (gL tX p.ib2 s.is6.toNat)); (sl (decide (s.is6 < (↑(List.length p.ib2) : Int))) (sl s.bs5 (k ⟨true, (W (s.is6 + 1))⟩) (sl (inB p.is4 (List.length p.c9)) (sl (inB s.is6 (List.length p.ib2)) (k ⟨(decide (t1 > 0)), (W (s.is6 + 1))⟩) z) z)) (e 1))
noncomputable def oa2 (p : Fa3) (s : da7) : Stp da7 := ra9 .next .exit .fail p s
noncomputable def qb6 : Lo Fa3 da7 := ⟨En Ab8, 0, ie2, [1, 1, 0, 1, 4, 4, 1, 0, 4, 1, 0, 1, 4, 4], [0, 3, 4, 5, 6], .p, [⟨((.s (.c 4 (nL tP))) :: ((.s (.o .unk)) :: ((.s (.o .unk)) :: ((.s (.c 4 (nL tX))) :: ((.s (.o (.int .i64))) :: ((.s (.o .bool)) :: ((.s (.o (.int .i64))) :: (ru2 29 [])))))))), [], fun a H => (⟨(rL tP (slT a 0)), (rL tX (slT a 3)), (toI (slT a 4))⟩, ⟨(toB (slT a 5)), (toI (slT a 6))⟩)⟩], oa2, [(some 2, fun p s => ⟨((eL tP p.c9) :: (.unk :: (.unk :: ((eL tX p.ib2) :: ((i p.is4) :: ((b s.bs5) :: ((i s.is6) :: (ra 8 ((i s.is6) :: ((eL tX p.ib2) :: ((i (↑(List.length p.ib2) : Int)) :: ((b (decide (s.is6 < (↑(List.length p.ib2) : Int)))) :: (ra 17 []))))))))))))), []⟩)], Dc4⟩
theorem Dc5 : qb6.Ok := Lo.ok [] (by kernel_rfl) .nil rfl (.cons (fun a H => by kernel_rfl) .nil) fun p s => (.of @ra9 (fun F _ _ _ _ _ => by unfold ra9; (repeat' apply m8 (f := F)) <;> rfl) (by kernel_rfl))
structure Fa4 where
structure W9 where
 c9 : List Pln
 ib2 : List Pt
 is4 : Int
noncomputable def Dc6 (p : Fa4) (s : W9) : St := ⟨((eL tP s.c9) :: (.unk :: (.unk :: ((eL tX s.ib2) :: ((i s.is4) :: (ra 31 [])))))), []⟩
noncomputable def sa0 {α : Type} (k : W9 → α) (e : Nat → α) (z : α) (p : Fa4) (s : W9) : α := let t1 := (lp (oa2 (⟨(rt tP s.c9), (rt tX s.ib2), s.is4⟩ : Fa3)) (⟨false, 0⟩ : da7)); (sl (decide (s.is4 < (↑(List.length s.c9) : Int))) (sl ((cnE tP s.c9) && ((cnE tX s.ib2) && true)) (sl (Nat.beq t1.1 1) (sl (!t1.2.bs5) (e 1) (k ⟨(rt tP s.c9), (rt tX s.ib2), (W (s.is4 + 1))⟩)) z) z) (e 2))
noncomputable def ya3 (p : Fa4) (s : W9) : Stp W9 := sa0 .next .exit .fail p s
noncomputable def qb7 : Lo Fa4 W9 := ⟨En Ab8, 0, ie2, [1, 1, 0, 1, 4, 4], [0, 3, 4], (.s .p (.s (.b (.s .p (.s (.s .p (.b (.u qb6.ls))) .p))) .p)), [⟨((.s (.c 4 (nL tP))) :: ((.s (.o .unk)) :: ((.s (.o .unk)) :: ((.s (.c 4 (nL tX))) :: ((.s (.o (.int .i64))) :: (ru2 31 [])))))), [], fun a H => (⟨⟩, ⟨(rL tP (slT a 0)), (rL tX (slT a 3)), (toI (slT a 4))⟩)⟩], ya3, [(none, fun p s => ⟨[(b false)], []⟩), (some 0, fun p s => ⟨((eL tP s.c9) :: (.unk :: (.unk :: ((eL tX s.ib2) :: ((i s.is4) :: (ra 4 ((i s.is4) :: ((eL tP s.c9) :: ((i (↑(List.length s.c9) : Int)) :: ((b (decide (s.is4 < (↑(List.length s.c9) : Int)))) :: (ra 23 []))))))))))), []⟩)], Dc6⟩
theorem Dc7 : qb7.Ok := Lo.ok [qb6.pr] (by kernel_rfl) (.cons Dc5 .nil) rfl (.cons (fun a H => by kernel_rfl) .nil) fun p s => (.of @sa0 (fun F _ _ _ _ _ => by unfold sa0; (repeat' apply m8 (f := F)) <;> rfl) (by kernel_rfl))
noncomputable def ab7 (x : List Pln) : Option (b7 × List b8) := let t1 := (ya0 (rt tP x)); let t2 := (lp (ya3 (⟨⟩ : Fa4)) (⟨(rt tP x), (rt tX t1), 0⟩ : W9)); (sl (okE tP x) (sl (ya1 (rt tP x)) (sl ((cnE tP x) && ((cnE tX t1) && true)) (sl (Nat.beq t2.1 1) (some ((b false), [])) (sl (Nat.beq t2.1 2) (some ((b true), [])) none)) none) none) none)
noncomputable def sa1 (x : List Pln) : Bool := I6 (one r1B) (ab7 x)
noncomputable def sa2 (x : List Pln) : Bool := okO (one r1B) (ab7 x)
noncomputable def Nb1 : Sum := da4 (U3 tP) (fun x => .guard (sa2 x) (.ret ((one r1B).enc (sa1 x), [])))
theorem gc6 : i5 prog G 93 Nb1 := xa0 (bd b93 Sc5) (one r1B) (o := ab7) fun x => xa1 (.s .p (.s .p (.s (.s .p (.b (.u qb7.ls))) .p))) [qb7.pr] (by kernel_rfl) (.cons Dc7 .nil) (by kernel_rfl)
noncomputable def ed9 : List (Nat × Sum) := [(16, Oa0), (91, Fb9), (93, Nb1)]
theorem Sc6 : j8 prog G ed9 := ⟨Va5, Nb0, gc6, trivial⟩
noncomputable def ab8 (x : List Pln) : Option (b7 × List b8) := let t1 := (ka3 (rt tP x)); let t2 := (va3 (rt tP x)); let t3 := (sa1 (rt tP t2)); (sl (okE tP x) (sl (ka4 (rt tP x)) (sl (t1 == 0) (sl (okE tP x) (sl (va4 (rt tP x)) (sl (okE tP t2) (sl (sa2 (rt tP t2)) (some ((b t3), [])) none) none) none) none) (some ((b false), []))) none) none)
noncomputable def Ka4 (x : List Pln) : Bool := I6 (one r1B) (ab8 x)
noncomputable def Ca2 (x : List Pln) : Bool := okO (one r1B) (ab8 x)
noncomputable def Nb2 : Sum := da4 (U3 tP) (fun x => .guard (Ca2 x) (.ret ((one r1B).enc (Ka4 x), [])))
theorem gc7 : i5 prog G 21 Nb2 := xa0 (bd b21 Sc6) (one r1B) (o := ab8) fun x => r5 (by kernel_rfl)
noncomputable def qd6 : List (Nat × Sum) := []
theorem fd0 : j8 prog G qd6 := trivial
noncomputable def nb0 (x : Int) (y : Int) : Option (b7 × List b8) := (sl (decide (y < 1)) (some ((i 0), [])) (sl (y == 0) none (sl (y == 0) none (some ((i (Int.tmod (W ((Int.tmod x y) + y)) y)), [])))))
noncomputable def oa3 (x : Int) (y : Int) : Int := I6 (one r1I) (nb0 x y)
noncomputable def ha8 (x : Int) (y : Int) : Bool := okO (one r1I) (nb0 x y)
noncomputable def nb1 : Sum := ga9 cI cI (fun x y => .guard (ha8 x y) (.ret ((one r1I).enc (oa3 x y), [])))
theorem qb8 : i5 prog G 47 nb1 := Za1 (bd b47 fd0) (one r1I) (o := nb0) fun x y => r5 (by kernel_rfl)
structure Rd0 where
 Kb9 : List Pt
structure Rd1 where
 is8 : Int
 Y8 : Int
 Y9 : Int
 Z0 : Int
 Gb7 : Int
 Gb8 : Int
 Gb9 : Int
end Go.Ev.Ce
