/- Own work: a part of the proof. -/
import Derived.Test.YtlccibobknidjaaGreatEvD0
set_option linter.unusedVariables false
set_option linter.unusedSimpArgs false
set_option linter.unnecessarySimpa false
set_option linter.unusedSectionVars false
namespace Go.Ev.Ce
open Go Go.Ev Go.Ev.L Go.Proofs
set_option maxRecDepth 100000
noncomputable def Ad5 : List (Nat × Sum) := []
theorem od1 : i6 prog G Ad5 := trivial
noncomputable def La8 (x : Pln) (y : Pt) : Int := (W ((W ((W ((W (x.b * y.pw)) - (W (x.n.x * y.px)))) - (W (x.n.y * y.py)))) - (W (x.n.z * y.pz))))
noncomputable def Fb1 : Sum := oa1 (R4 tP) (R4 tX) (fun x y => .ret ((one r1I).enc (La8 x y), []))
theorem Pb9 : g9 prog G 37 Fb1 := Ea1 (bd b37 od1) fun x y => r9 (by kernel_rfl)
noncomputable def Nd0 : List (Nat × Sum) := []
theorem Ad6 : i6 prog G Nd0 := trivial
noncomputable def jb9 (x : V3) (y : V3) : V3 := (⟨(W (x.x + y.x)), (W (x.y + y.y)), (W (x.z + y.z))⟩ : V3)
noncomputable def gd7 : Sum := oa1 (R4 tV) (R4 tV) (fun x y => .ret ((one r1V).enc (jb9 x y), []))
theorem Nd1 : g9 prog G 126 gd7 := Ea1 (bd ff0 Ad6) fun x y => r9 (by kernel_rfl)
noncomputable def Nd2 : List (Nat × Sum) := []
theorem Ad7 : i6 prog G Nd2 := trivial
noncomputable def Na0 (x : V3) (y : V3) : Int := (W ((W ((W (x.x * y.x)) + (W (x.y * y.y)))) + (W (x.z * y.z))))
noncomputable def Wb0 : Sum := oa1 (R4 tV) (R4 tV) (fun x y => .ret ((one r1I).enc (Na0 x y), []))
theorem ec0 : g9 prog G 130 Wb0 := Ea1 (bd ff2 Ad7) fun x y => r9 (by kernel_rfl)
noncomputable def od2 : List (Nat × Sum) := []
theorem Wc6 : i6 prog G od2 := trivial
noncomputable def T9 (x : V3) (y : V3) : V3 := (⟨(W ((W (x.y * y.z)) - (W (x.z * y.y)))), (W ((W (x.z * y.x)) - (W (x.x * y.z)))), (W ((W (x.x * y.y)) - (W (x.y * y.x))))⟩ : V3)
noncomputable def Qb0 : Sum := oa1 (R4 tV) (R4 tV) (fun x y => .ret ((one r1V).enc (T9 x y), []))
theorem lc4 : g9 prog G 186 Qb0 := Ea1 (bd hf7 Wc6) fun x y => r9 (by kernel_rfl)
noncomputable def Wc7 : List (Nat × Sum) := []
theorem Mc5 : i6 prog G Wc7 := trivial
noncomputable def R5 (x : V3) (y : Int) : V3 := (⟨(W (x.x * y)), (W (x.y * y)), (W (x.z * y))⟩ : V3)
noncomputable def lc5 : Sum := oa1 (R4 tV) cI (fun x y => .ret ((one r1V).enc (R5 x y), []))
theorem Wc8 : g9 prog G 219 lc5 := Ea1 (bd if5 Mc5) fun x y => r9 (by kernel_rfl)
noncomputable def ac8 : List (Nat × Sum) := []
theorem Mc6 : i6 prog G ac8 := trivial
structure Aa0 where
structure Z6 where
 is0 : Int
 is1 : Int
noncomputable def Bc8 (p : Aa0) (s : Z6) : St := ⟨((i s.is0) :: ((i s.is1) :: (ra 10 []))), []⟩
noncomputable def pa8 {α : Type} (k : Z6 → α) (e : Nat → α) (z : α) (p : Aa0) (s : Z6) : α := (sl (s.is1 != 0) (sl (s.is1 == 0) z (k ⟨s.is1, (Int.tmod s.is0 s.is1)⟩)) (e 1))
noncomputable def ua8 (p : Aa0) (s : Z6) : Stp Z6 := pa8 .next .exit .fail p s
noncomputable def lb8 : Lo Aa0 Z6 := ⟨En ac8, 0, Fe9, [1, 0, 4, 4], [0, 1], .p, [⟨((.s (.o (.int .i64))) :: ((.s (.o (.int .i64))) :: (ru2 10 []))), [], fun a H => (⟨⟩, ⟨(toI (slT a 0)), (toI (slT a 1))⟩)⟩], ua8, [(some 0, fun p s => ⟨((i s.is0) :: ((i s.is1) :: (ra 3 ((i s.is1) :: ((b (s.is1 != 0)) :: (ra 5 [])))))), []⟩)], Bc8⟩
theorem Bc9 : lb8.Ok := Lo.ok [] (by kernel_rfl) .nil rfl (.cons (fun a H => by kernel_rfl) .nil) fun p s => (.of @pa8 (fun F _ _ _ _ _ => by unfold pa8; (repeat' apply k9 (f := F)) <;> rfl) (by kernel_rfl))
noncomputable def Pa5 (x : Int) (y : Int) : Option (b7 × List b8) := let t1 := (lp (ua8 (⟨⟩ : Aa0)) (⟨x, y⟩ : Z6)); (sl (Nat.beq t1.1 1) (some ((i t1.2.is0), [])) none)
noncomputable def R6 (x : Int) (y : Int) : Int := K5 (one r1I) (Pa5 x y)
noncomputable def R7 (x : Int) (y : Int) : Bool := okO (one r1I) (Pa5 x y)
noncomputable def lc6 : Sum := oa1 cI cI (fun x y => .guard (R7 x y) (.ret ((one r1I).enc (R6 x y), [])))
theorem Wc9 : g9 prog G 220 lc6 := gb5 (bd if6 Mc6) (one r1I) (o := Pa5) fun x y => sa6 (.s .p (.s (.b (.u lb8.ls)) .p)) [lb8.pr] (by kernel_rfl) (.cons Bc9 .nil) (by kernel_rfl)
noncomputable def Ad8 : List (Nat × Sum) := [(186, Qb0), (130, Wb0), (219, lc5), (126, gd7), (220, lc6)]
theorem od3 : i6 prog G Ad8 := ⟨lc4, ec0, Wc8, Nd1, Wc9, trivial⟩
noncomputable def lb9 (x : Pln) (y : Pln) (z : Pln) : Option (b7 × List b8) := let t1 := (T9 y.n z.n); let t2 := (Na0 x.n t1); let t3 := (R5 t1 x.b); let t4 := (T9 z.n x.n); let t5 := (R5 t4 y.b); let t6 := (jb9 t3 t5); let t7 := (T9 x.n y.n); let t8 := (R5 t7 z.b); let t9 := (jb9 t6 t8); let t10 := (R5 t9 (-1)); let t11 := (R6 (if (W (0 - t10.x)) > t10.x then (W (0 - t10.x)) else t10.x) (if (W (0 - t10.y)) > t10.y then (W (0 - t10.y)) else t10.y)); let t12 := (R6 (if (W (0 - t10.z)) > t10.z then (W (0 - t10.z)) else t10.z) (W (0 - t2))); let t13 := (R6 t11 t12); let t14 := (R6 (if (W (0 - t9.x)) > t9.x then (W (0 - t9.x)) else t9.x) (if (W (0 - t9.y)) > t9.y then (W (0 - t9.y)) else t9.y)); let t15 := (R6 (if (W (0 - t9.z)) > t9.z then (W (0 - t9.z)) else t9.z) t2); let t16 := (R6 t14 t15); (sl (t2 == 0) (some ((.tup [(.agg [(i 0), (i 0), (i 0), (i 0)]), (b false)]), [])) (sl (decide (t2 < 0)) (sl (R7 (if (W (0 - t10.x)) > t10.x then (W (0 - t10.x)) else t10.x) (if (W (0 - t10.y)) > t10.y then (W (0 - t10.y)) else t10.y)) (sl (R7 (if (W (0 - t10.z)) > t10.z then (W (0 - t10.z)) else t10.z) (W (0 - t2))) (sl (R7 t11 t12) (sl (t13 == 0) none (sl (t13 == 0) none (sl (t13 == 0) none (sl (t13 == 0) none (some ((.tup [(.agg [(i (W (Int.tdiv t10.x t13))), (i (W (Int.tdiv t10.y t13))), (i (W (Int.tdiv t10.z t13))), (i (W (Int.tdiv (W (0 - t2)) t13)))]), (b true)]), [])))))) none) none) none) (sl (R7 (if (W (0 - t9.x)) > t9.x then (W (0 - t9.x)) else t9.x) (if (W (0 - t9.y)) > t9.y then (W (0 - t9.y)) else t9.y)) (sl (R7 (if (W (0 - t9.z)) > t9.z then (W (0 - t9.z)) else t9.z) t2) (sl (R7 t14 t15) (sl (t16 == 0) none (sl (t16 == 0) none (sl (t16 == 0) none (sl (t16 == 0) none (some ((.tup [(.agg [(i (W (Int.tdiv t9.x t16))), (i (W (Int.tdiv t9.y t16))), (i (W (Int.tdiv t9.z t16))), (i (W (Int.tdiv t2 t16)))]), (b true)]), [])))))) none) none) none)))
noncomputable def mb0 (x : Pln) (y : Pln) (z : Pln) : Pt × Bool := K5 (two r1X r1B) (lb9 x y z)
noncomputable def mb1 (x : Pln) (y : Pln) (z : Pln) : Bool := okO (two r1X r1B) (lb9 x y z)
noncomputable def Mc7 : Sum := Wc4 (R4 tP) (R4 tP) (R4 tP) (fun x y z => .guard (mb1 x y z) (.ret ((two r1X r1B).enc (mb0 x y z), [])))
theorem Ad9 : g9 prog G 172 Mc7 := Je8 (bd gf2 od3) (two r1X r1B) (o := lb9) fun x y z => r9 (by kernel_rfl)
noncomputable def gd8 : List (Nat × Sum) := [(37, Fb1)]
theorem Nd3 : i6 prog G gd8 := ⟨Pb9, trivial⟩
structure mb2 where
 c7 : List Pln
 f9 : Int
 b9 : Int
 g7 : Int
 d9 : Int
structure ta3 where
 is5 : Int
noncomputable def Bd0 (p : mb2) (s : ta3) : St := ⟨((eL tP p.c7) :: (.unk :: (.unk :: ((.ptr 0 0 0 0) :: (.unk :: ((i s.is5) :: (ra 13 []))))))), [⟨0, 4, [[(i p.f9), (i p.b9), (i p.g7), (i p.d9)]], true, false, 0⟩]⟩
noncomputable def Pa6 {α : Type} (k : ta3 → α) (e : Nat → α) (z : α) (p : mb2) (s : ta3) : α := let t1 := (La8 (gL tP p.c7 s.is5.toNat) (⟨p.f9, p.b9, p.g7, p.d9⟩ : Pt)); (sl (decide (s.is5 < (↑(List.length p.c7) : Int))) (sl (inB s.is5 (List.length p.c7)) (sl (decide (t1 < 0)) (e 1) (k ⟨(W (s.is5 + 1))⟩)) z) (e 2))
noncomputable def Ya9 (p : mb2) (s : ta3) : Stp ta3 := Pa6 .next .exit .fail p s
noncomputable def ec1 : Lo mb2 ta3 := ⟨En gd8, 0, Ee5, [1, 0, 1, 4, 4], [0, 3, 5], .p, [⟨((.s (.c 4 (nL tP))) :: ((.s (.o .unk)) :: ((.s (.o .unk)) :: ((.s (.o (.ptr 0 0 0 0))) :: ((.s (.o .unk)) :: ((.s (.o (.int .i64))) :: (ru2 13 []))))))), [⟨0, 4, true, (some [[(.o (.int .i64)), (.o (.int .i64)), (.o (.int .i64)), (.o (.int .i64))]])⟩], fun a H => (⟨(rL tP (slT a 0)), (toI (slT (rwT (elT H 0) 0) 0)), (toI (slT (rwT (elT H 0) 0) 1)), (toI (slT (rwT (elT H 0) 0) 2)), (toI (slT (rwT (elT H 0) 0) 3))⟩, ⟨(toI (slT a 5))⟩)⟩], Ya9, [(none, fun p s => ⟨[(b false)], []⟩), (some 0, fun p s => ⟨((eL tP p.c7) :: (.unk :: (.unk :: ((.ptr 0 0 0 0) :: (.unk :: ((i s.is5) :: ((i s.is5) :: ((eL tP p.c7) :: ((i (↑(List.length p.c7) : Int)) :: ((b (decide (s.is5 < (↑(List.length p.c7) : Int)))) :: (ra 9 []))))))))))), [⟨0, 4, [[(i p.f9), (i p.b9), (i p.g7), (i p.d9)]], true, false, 0⟩]⟩)], Bd0⟩
theorem Bd1 : ec1.Ok := Lo.ok [] (by kernel_rfl) .nil rfl (.cons (fun a H => by kernel_rfl) .nil) fun p s => (.of @Pa6 (fun F _ _ _ _ _ => by unfold Pa6; (repeat' apply k9 (f := F)) <;> rfl) (by kernel_rfl))
noncomputable def Qb1 (x : List Pln) (y : Pt) : Option (b7 × List b8) := let t1 := (lp (Ya9 (⟨(rt tP x), y.px, y.py, y.pz, y.pw⟩ : mb2)) (⟨0⟩ : ta3)); (sl ((cnE tP x) && true) (sl (Nat.beq t1.1 1) (some ((b false), [])) (sl (Nat.beq t1.1 2) (some ((b true), [])) none)) none)
noncomputable def mb3 (x : List Pln) (y : Pt) : Bool := K5 (one r1B) (Qb1 x y)
noncomputable def mb4 (x : List Pln) (y : Pt) : Bool := okO (one r1B) (Qb1 x y)
noncomputable def Mc8 : Sum := oa1 (W7 tP) (R4 tX) (fun x y => .guard (mb4 x y) (.ret ((one r1B).enc (mb3 x y), [])))
theorem gd9 : g9 prog G 110 Mc8 := gb5 (bd ef3 Nd3) (one r1B) (o := Qb1) fun x y => sa6 (.s .p (.s (.s .p (.b (.u ec1.ls))) .p)) [ec1.pr] (by kernel_rfl) (.cons Bd1 .nil) (by kernel_rfl)
noncomputable def lc7 : List (Nat × Sum) := []
theorem Xc0 : i6 prog G lc7 := trivial
structure Ga9 where
 B3 : List Pt
 f9 : Int
 b9 : Int
 g7 : Int
 d9 : Int
structure Y1 where
 is5 : Int
noncomputable def Mc9 (p : Ga9) (s : Y1) : St := ⟨((eL tX p.B3) :: (.unk :: (.unk :: ((.ptr 0 0 0 0) :: (.unk :: ((i s.is5) :: (ra 12 []))))))), [⟨0, 4, [[(i p.f9), (i p.b9), (i p.g7), (i p.d9)]], true, false, 0⟩]⟩
noncomputable def ua9 {α : Type} (k : Y1 → α) (e : Nat → α) (z : α) (p : Ga9) (s : Y1) : α := (sl (decide (s.is5 < (↑(List.length p.B3) : Int))) (sl (inB s.is5 (List.length p.B3)) (sl (((gL tX p.B3 s.is5.toNat).px == p.f9) && (((gL tX p.B3 s.is5.toNat).py == p.b9) && (((gL tX p.B3 s.is5.toNat).pz == p.g7) && (((gL tX p.B3 s.is5.toNat).pw == p.d9) && true)))) (e 1) (k ⟨(W (s.is5 + 1))⟩)) z) (e 2))
noncomputable def Aa1 (p : Ga9) (s : Y1) : Stp Y1 := ua9 .next .exit .fail p s
noncomputable def wb4 : Lo Ga9 Y1 := ⟨En lc7, 0, Fe0, [1, 0, 1, 4, 4], [0, 3, 5], .p, [⟨((.s (.c 4 (nL tX))) :: ((.s (.o .unk)) :: ((.s (.o .unk)) :: ((.s (.o (.ptr 0 0 0 0))) :: ((.s (.o .unk)) :: ((.s (.o (.int .i64))) :: (ru2 12 []))))))), [⟨0, 4, true, (some [[(.o (.int .i64)), (.o (.int .i64)), (.o (.int .i64)), (.o (.int .i64))]])⟩], fun a H => (⟨(rL tX (slT a 0)), (toI (slT (rwT (elT H 0) 0) 0)), (toI (slT (rwT (elT H 0) 0) 1)), (toI (slT (rwT (elT H 0) 0) 2)), (toI (slT (rwT (elT H 0) 0) 3))⟩, ⟨(toI (slT a 5))⟩)⟩], Aa1, [(none, fun p s => ⟨[(b true)], []⟩), (some 0, fun p s => ⟨((eL tX p.B3) :: (.unk :: (.unk :: ((.ptr 0 0 0 0) :: (.unk :: ((i s.is5) :: ((i s.is5) :: ((eL tX p.B3) :: ((i (↑(List.length p.B3) : Int)) :: ((b (decide (s.is5 < (↑(List.length p.B3) : Int)))) :: (ra 8 []))))))))))), [⟨0, 4, [[(i p.f9), (i p.b9), (i p.g7), (i p.d9)]], true, false, 0⟩]⟩)], Mc9⟩
theorem Nc0 : wb4.Ok := Lo.ok [] (by kernel_rfl) .nil rfl (.cons (fun a H => by kernel_rfl) .nil) fun p s => (.of @ua9 (fun F _ _ _ _ _ => by unfold ua9; (repeat' apply k9 (f := F)) <;> rfl) (by kernel_rfl))
noncomputable def Za0 (x : List Pt) (y : Pt) : Option (b7 × List b8) := let t1 := (lp (Aa1 (⟨(rt tX x), y.px, y.py, y.pz, y.pw⟩ : Ga9)) (⟨0⟩ : Y1)); (sl ((cnE tX x) && true) (sl (Nat.beq t1.1 1) (some ((b true), [])) (sl (Nat.beq t1.1 2) (some ((b false), [])) none)) none)
noncomputable def Na1 (x : List Pt) (y : Pt) : Bool := K5 (one r1B) (Za0 x y)
noncomputable def Na2 (x : List Pt) (y : Pt) : Bool := okO (one r1B) (Za0 x y)
noncomputable def yc9 : Sum := oa1 (W7 tX) (R4 tX) (fun x y => .guard (Na2 x y) (.ret ((one r1B).enc (Na1 x y), [])))
theorem od4 : g9 prog G 173 yc9 := gb5 (bd gf3 Xc0) (one r1B) (o := Za0) fun x y => sa6 (.s .p (.s (.s .p (.b (.u wb4.ls))) .p)) [wb4.pr] (by kernel_rfl) (.cons Nc0 .nil) (by kernel_rfl)
noncomputable def Pa7 : List (Nat × Sum) := [(172, Mc7), (110, Mc8), (173, yc9)]
theorem Cc0 : i6 prog G Pa7 := ⟨Ad9, gd9, od4, trivial⟩
structure M8 where
 c7 : List Pln
 is4 : Int
 is5 : Int
structure r5 where
 ph : Nat
 is6 : Int
 ns3 : Nat
 eh0 : List (List b7)
noncomputable def lc8 (p : M8) (s : r5) : St := ⟨((eL tP p.c7) :: (.unk :: (.unk :: ((.v (.slice none 0 0)) :: ((i p.is4) :: ((i p.is5) :: ((i s.is6) :: (ra 57 [])))))))), []⟩
noncomputable def lc9 (p : M8) (s : r5) : St := ⟨((eL tP p.c7) :: (.unk :: (.unk :: ((.sl 0 0 s.ns3 0) :: ((i p.is4) :: ((i p.is5) :: ((i s.is6) :: (ra 57 [])))))))), [⟨54, 4, s.eh0, true, false, 0⟩]⟩
noncomputable def tc7 (p : M8) (s : r5) : St := (sel (Nat.beq s.ph 1) (lc9 p s) (lc8 p s))
noncomputable def R8 {α : Type} (k : r5 → α) (e : Nat → α) (z : α) (p : M8) (s : r5) : α := let t1 := (mb0 (gL tP p.c7 p.is4.toNat) (gL tP p.c7 p.is5.toNat) (gL tP p.c7 s.is6.toNat)); let t2 := (mb3 (rt tP p.c7) t1.1); let t3 := (Na1 [] t1.1); (sl (decide (s.is6 < (↑(List.length p.c7) : Int))) (sl (inB p.is4 (List.length p.c7)) (sl (inB p.is5 (List.length p.c7)) (sl (inB s.is6 (List.length p.c7)) (sl (mb1 (gL tP p.c7 p.is4.toNat) (gL tP p.c7 p.is5.toNat) (gL tP p.c7 s.is6.toNat)) (sl t1.2 (sl (okE tP p.c7) (sl (mb4 (rt tP p.c7) t1.1) (sl t2 (sl (Na2 [] t1.1) (sl (!t3) (k ⟨1, (W (s.is6 + 1)), 1, [[(i t1.1.px), (i t1.1.py), (i t1.1.pz), (i t1.1.pw)]]⟩) (k ⟨0, (W (s.is6 + 1)), 0, []⟩)) z) (k ⟨0, (W (s.is6 + 1)), 0, []⟩)) z) z) (k ⟨0, (W (s.is6 + 1)), 0, []⟩)) z) z) z) z) (e 1))
noncomputable def R9 {α : Type} (k : r5 → α) (e : Nat → α) (z : α) (p : M8) (s : r5) : α := let t1 := (mb0 (gL tP p.c7 p.is4.toNat) (gL tP p.c7 p.is5.toNat) (gL tP p.c7 s.is6.toNat)); let t2 := (mb3 (rt tP p.c7) t1.1); let t3 := (Na1 (slR tX s.eh0 0 s.ns3) t1.1); (sl (decide (s.is6 < (↑(List.length p.c7) : Int))) (sl (inB p.is4 (List.length p.c7)) (sl (inB p.is5 (List.length p.c7)) (sl (inB s.is6 (List.length p.c7)) (sl (mb1 (gL tP p.c7 p.is4.toNat) (gL tP p.c7 p.is5.toNat) (gL tP p.c7 s.is6.toNat)) (sl t1.2 (sl (okE tP p.c7) (sl (mb4 (rt tP p.c7) t1.1) (sl t2 (sl (okS tX s.eh0 0 s.ns3) (sl (Na2 (slR tX s.eh0 0 s.ns3) t1.1) (sl (!t3) (sl (Nat.beq s.ns3 (len s.eh0) && Nat.ble ((s.ns3 + 1) * 32) room) (k ⟨1, (W (s.is6 + 1)), (s.ns3 + 1), (app s.eh0 [[(i t1.1.px), (i t1.1.py), (i t1.1.pz), (i t1.1.pw)]])⟩) z) (k ⟨1, (W (s.is6 + 1)), s.ns3, s.eh0⟩)) z) z) (k ⟨1, (W (s.is6 + 1)), s.ns3, s.eh0⟩)) z) z) (k ⟨1, (W (s.is6 + 1)), s.ns3, s.eh0⟩)) z) z) z) z) (e 2))
noncomputable def O7 (p : M8) (s : r5) : Stp r5 := (sel (Nat.beq s.ph 1) (R9 .next .exit .fail p s) (R8 .next .exit .fail p s))
noncomputable def cb7 : Lo M8 r5 := ⟨En Pa7, 0, xe4, [1, 1, 0, 1, 4, 4, 1, 0, 4, 1, 4, 4, 1, 0, 4, 1, 4, 4], [0, 3, 4, 5, 6], .p, [⟨((.s (.c 4 (nL tP))) :: ((.s (.o .unk)) :: ((.s (.o .unk)) :: ((.s (.o .nil)) :: ((.s (.o (.int .i64))) :: ((.s (.o (.int .i64))) :: ((.s (.o (.int .i64))) :: (ru2 57 [])))))))), [], fun a H => (⟨(rL tP (slT a 0)), (toI (slT a 4)), (toI (slT a 5))⟩, ⟨0, (toI (slT a 6)), 0, []⟩)⟩, ⟨((.s (.c 4 (nL tP))) :: ((.s (.o .unk)) :: ((.s (.o .unk)) :: ((.s (.o (.sl 0 0 (some 0) none))) :: ((.s (.o (.int .i64))) :: ((.s (.o (.int .i64))) :: ((.s (.o (.int .i64))) :: (ru2 57 [])))))))), [⟨54, 4, true, none⟩], fun a H => (⟨(rL tP (slT a 0)), (toI (slT a 4)), (toI (slT a 5))⟩, ⟨1, (toI (slT a 6)), (slN (slT a 3)), (elT H 0)⟩)⟩], O7, [(some 4, fun p s => ⟨((eL tP p.c7) :: (.unk :: (.unk :: ((.v (.slice none 0 0)) :: ((i p.is4) :: ((i p.is5) :: ((i s.is6) :: (ra 18 ((i s.is6) :: ((eL tP p.c7) :: ((i (↑(List.length p.c7) : Int)) :: ((b (decide (s.is6 < (↑(List.length p.c7) : Int)))) :: (ra 35 []))))))))))))), []⟩), (some 4, fun p s => ⟨((eL tP p.c7) :: (.unk :: (.unk :: ((.sl 0 0 s.ns3 0) :: ((i p.is4) :: ((i p.is5) :: ((i s.is6) :: (ra 18 ((i s.is6) :: ((eL tP p.c7) :: ((i (↑(List.length p.c7) : Int)) :: ((b (decide (s.is6 < (↑(List.length p.c7) : Int)))) :: (ra 35 []))))))))))))), [⟨54, 4, s.eh0, true, false, 0⟩]⟩)], tc7⟩
theorem tc8 : cb7.Ok := Lo.ok [] (by kernel_rfl) .nil rfl (.cons (fun a H => by kernel_rfl) (.cons (fun a H => by kernel_rfl) .nil)) fun p s => (.sel (Nat.beq s.ph 1) (.of @R9 (fun F _ _ _ _ _ => by unfold R9; (repeat' apply k9 (f := F)) <;> rfl) (by kernel_rfl)) (.of @R8 (fun F _ _ _ _ _ => by unfold R8; (repeat' apply k9 (f := F)) <;> rfl) (by kernel_rfl)))
structure M9 where
 is4 : Int
structure s7 where
 ph : Nat
 c7 : List Pln
 is5 : Int
 ns3 : Nat
 eh0 : List (List b7)
noncomputable def mc0 (p : M9) (s : s7) : St := ⟨((eL tP s.c7) :: (.unk :: (.unk :: ((.v (.slice none 0 0)) :: ((i p.is4) :: ((i s.is5) :: (ra 58 []))))))), []⟩
noncomputable def mc1 (p : M9) (s : s7) : St := ⟨((eL tP s.c7) :: (.unk :: (.unk :: ((.sl 0 0 s.ns3 0) :: ((i p.is4) :: ((i s.is5) :: (ra 58 []))))))), [⟨54, 4, s.eh0, true, false, 0⟩]⟩
noncomputable def tc9 (p : M9) (s : s7) : St := (sel (Nat.beq s.ph 1) (mc1 p s) (mc0 p s))
noncomputable def S1 {α : Type} (k : s7 → α) (e : Nat → α) (z : α) (p : M9) (s : s7) : α := let t1 := (lp (O7 (⟨(rt tP s.c7), p.is4, s.is5⟩ : M8)) (⟨0, (W (s.is5 + 1)), 0, []⟩ : r5)); (sl (decide (s.is5 < (↑(List.length s.c7) : Int))) (sl ((cnE tP s.c7) && true) (sl (Nat.beq t1.1 1) (k ⟨0, (rt tP s.c7), (W (s.is5 + 1)), 0, []⟩) (sl (Nat.beq t1.1 2) (k ⟨1, (rt tP s.c7), (W (s.is5 + 1)), t1.2.ns3, t1.2.eh0⟩) z)) z) (e 1))
noncomputable def S3 {α : Type} (k : s7 → α) (e : Nat → α) (z : α) (p : M9) (s : s7) : α := let t1 := (lp (O7 (⟨(rt tP s.c7), p.is4, s.is5⟩ : M8)) (⟨1, (W (s.is5 + 1)), s.ns3, s.eh0⟩ : r5)); (sl (decide (s.is5 < (↑(List.length s.c7) : Int))) (sl ((cnE tP s.c7) && true) (sl (Nat.beq t1.1 1) (k ⟨0, (rt tP s.c7), (W (s.is5 + 1)), 0, []⟩) (sl (Nat.beq t1.1 2) (k ⟨1, (rt tP s.c7), (W (s.is5 + 1)), t1.2.ns3, t1.2.eh0⟩) z)) z) (e 2))
noncomputable def K6 (p : M9) (s : s7) : Stp s7 := (sel (Nat.beq s.ph 1) (S3 .next .exit .fail p s) (S1 .next .exit .fail p s))
noncomputable def cb8 : Lo M9 s7 := ⟨En Pa7, 0, xe4, [1, 1, 0, 1, 4, 4, 1, 0, 4, 1, 4, 4], [0, 3, 4, 5], (.s .p (.s (.b (.s .p (.b (.u cb7.ls)))) .p)), [⟨((.s (.c 4 (nL tP))) :: ((.s (.o .unk)) :: ((.s (.o .unk)) :: ((.s (.o .nil)) :: ((.s (.o (.int .i64))) :: ((.s (.o (.int .i64))) :: (ru2 58 []))))))), [], fun a H => (⟨(toI (slT a 4))⟩, ⟨0, (rL tP (slT a 0)), (toI (slT a 5)), 0, []⟩)⟩, ⟨((.s (.c 4 (nL tP))) :: ((.s (.o .unk)) :: ((.s (.o .unk)) :: ((.s (.o (.sl 0 0 (some 0) none))) :: ((.s (.o (.int .i64))) :: ((.s (.o (.int .i64))) :: (ru2 58 []))))))), [⟨54, 4, true, none⟩], fun a H => (⟨(toI (slT a 4))⟩, ⟨1, (rL tP (slT a 0)), (toI (slT a 5)), (slN (slT a 3)), (elT H 0)⟩)⟩], K6, [(some 2, fun p s => ⟨((eL tP s.c7) :: (.unk :: (.unk :: ((.v (.slice none 0 0)) :: ((i p.is4) :: ((i s.is5) :: (ra 11 ((i s.is5) :: ((eL tP s.c7) :: ((i (↑(List.length s.c7) : Int)) :: ((b (decide (s.is5 < (↑(List.length s.c7) : Int)))) :: (ra 43 [])))))))))))), []⟩), (some 2, fun p s => ⟨((eL tP s.c7) :: (.unk :: (.unk :: ((.sl 0 0 s.ns3 0) :: ((i p.is4) :: ((i s.is5) :: (ra 11 ((i s.is5) :: ((eL tP s.c7) :: ((i (↑(List.length s.c7) : Int)) :: ((b (decide (s.is5 < (↑(List.length s.c7) : Int)))) :: (ra 43 [])))))))))))), [⟨54, 4, s.eh0, true, false, 0⟩]⟩)], tc9⟩
theorem uc0 : cb8.Ok := Lo.ok [cb7.pr] (by kernel_rfl) (.cons tc8 .nil) rfl (.cons (fun a H => by kernel_rfl) (.cons (fun a H => by kernel_rfl) .nil)) fun p s => (.sel (Nat.beq s.ph 1) (.of @S3 (fun F _ _ _ _ _ => by unfold S3; (repeat' apply k9 (f := F)) <;> rfl) (by kernel_rfl)) (.of @S1 (fun F _ _ _ _ _ => by unfold S1; (repeat' apply k9 (f := F)) <;> rfl) (by kernel_rfl)))
structure U0 where
structure z7 where
 ph : Nat
 c7 : List Pln
 is4 : Int
 ns3 : Nat
 eh0 : List (List b7)
noncomputable def mc2 (p : U0) (s : z7) : St := ⟨((eL tP s.c7) :: (.unk :: (.unk :: ((.v (.slice none 0 0)) :: ((i s.is4) :: (ra 59 [])))))), []⟩
noncomputable def mc3 (p : U0) (s : z7) : St := ⟨((eL tP s.c7) :: (.unk :: (.unk :: ((.sl 0 0 s.ns3 0) :: ((i s.is4) :: (ra 59 [])))))), [⟨54, 4, s.eh0, true, false, 0⟩]⟩
noncomputable def uc1 (p : U0) (s : z7) : St := (sel (Nat.beq s.ph 1) (mc3 p s) (mc2 p s))
noncomputable def S4 {α : Type} (k : z7 → α) (e : Nat → α) (z : α) (p : U0) (s : z7) : α := let t1 := (lp (K6 (⟨s.is4⟩ : M9)) (⟨0, (rt tP s.c7), (W (s.is4 + 1)), 0, []⟩ : s7)); (sl (decide (s.is4 < (↑(List.length s.c7) : Int))) (sl ((cnE tP s.c7) && true) (sl (Nat.beq t1.1 1) (k ⟨0, t1.2.c7, (W (s.is4 + 1)), 0, []⟩) (sl (Nat.beq t1.1 2) (k ⟨1, t1.2.c7, (W (s.is4 + 1)), t1.2.ns3, t1.2.eh0⟩) z)) z) (e 1))
noncomputable def S5 {α : Type} (k : z7 → α) (e : Nat → α) (z : α) (p : U0) (s : z7) : α := let t1 := (lp (K6 (⟨s.is4⟩ : M9)) (⟨1, (rt tP s.c7), (W (s.is4 + 1)), s.ns3, s.eh0⟩ : s7)); (sl (decide (s.is4 < (↑(List.length s.c7) : Int))) (sl ((cnE tP s.c7) && true) (sl (Nat.beq t1.1 1) (k ⟨0, t1.2.c7, (W (s.is4 + 1)), 0, []⟩) (sl (Nat.beq t1.1 2) (k ⟨1, t1.2.c7, (W (s.is4 + 1)), t1.2.ns3, t1.2.eh0⟩) z)) z) (e 2))
noncomputable def O8 (p : U0) (s : z7) : Stp z7 := (sel (Nat.beq s.ph 1) (S5 .next .exit .fail p s) (S4 .next .exit .fail p s))
noncomputable def cb9 : Lo U0 z7 := ⟨En Pa7, 0, xe4, [1, 1, 0, 1, 4, 4], [0, 3, 4], (.s .p (.s (.b (.s .p (.b (.u cb8.ls)))) .p)), [⟨((.s (.c 4 (nL tP))) :: ((.s (.o .unk)) :: ((.s (.o .unk)) :: ((.s (.o .nil)) :: ((.s (.o (.int .i64))) :: (ru2 59 [])))))), [], fun a H => (⟨⟩, ⟨0, (rL tP (slT a 0)), (toI (slT a 4)), 0, []⟩)⟩, ⟨((.s (.c 4 (nL tP))) :: ((.s (.o .unk)) :: ((.s (.o .unk)) :: ((.s (.o (.sl 0 0 (some 0) none))) :: ((.s (.o (.int .i64))) :: (ru2 59 [])))))), [⟨54, 4, true, none⟩], fun a H => (⟨⟩, ⟨1, (rL tP (slT a 0)), (toI (slT a 4)), (slN (slT a 3)), (elT H 0)⟩)⟩], O8, [(some 0, fun p s => ⟨((eL tP s.c7) :: (.unk :: (.unk :: ((.v (.slice none 0 0)) :: ((i s.is4) :: (ra 4 ((i s.is4) :: ((eL tP s.c7) :: ((i (↑(List.length s.c7) : Int)) :: ((b (decide (s.is4 < (↑(List.length s.c7) : Int)))) :: (ra 51 []))))))))))), []⟩), (some 0, fun p s => ⟨((eL tP s.c7) :: (.unk :: (.unk :: ((.sl 0 0 s.ns3 0) :: ((i s.is4) :: (ra 4 ((i s.is4) :: ((eL tP s.c7) :: ((i (↑(List.length s.c7) : Int)) :: ((b (decide (s.is4 < (↑(List.length s.c7) : Int)))) :: (ra 51 []))))))))))), [⟨54, 4, s.eh0, true, false, 0⟩]⟩)], uc1⟩
theorem uc2 : cb9.Ok := Lo.ok [cb8.pr] (by kernel_rfl) (.cons uc0 .nil) rfl (.cons (fun a H => by kernel_rfl) (.cons (fun a H => by kernel_rfl) .nil)) fun p s => (.sel (Nat.beq s.ph 1) (.of @S5 (fun F _ _ _ _ _ => by unfold S5; (repeat' apply k9 (f := F)) <;> rfl) (by kernel_rfl)) (.of @S4 (fun F _ _ _ _ _ => by unfold S4; (repeat' apply k9 (f := F)) <;> rfl) (by kernel_rfl)))
noncomputable def Ha0 (x : List Pln) : Option (b7 × List b8) := let t1 := (lp (O8 (⟨⟩ : U0)) (⟨0, (rt tP x), 0, 0, []⟩ : z7)); (sl ((cnE tP x) && true) (sl (Nat.beq t1.1 1) (some ((.v (.slice none 0 0)), [])) (sl (Nat.beq t1.1 2) (some ((.sl 0 0 t1.2.ns3 0), [⟨54, 4, t1.2.eh0, true, false, 0⟩])) none)) none)
noncomputable def Ha1 (x : List Pln) : List Pt := K5 (one (r1L tX)) (Ha0 x)
noncomputable def Ha2 (x : List Pln) : Bool := okO (one (r1L tX)) (Ha0 x)
noncomputable def wb5 : Sum := R3 (W7 tP) (fun x => .guard (Ha2 x) (.ret ((one (r1L tX)).enc (Ha1 x), [])))
theorem Qb2 : g9 prog G 90 wb5 := za1 (bd b90 Cc0) (one (r1L tX)) (o := Ha0) fun x => sa6 (.s .p (.s .p (.s (.s .p (.b (.u cb9.ls))) .p))) [cb9.pr] (by kernel_rfl) (.cons uc2 .nil) (by kernel_rfl)
noncomputable def ub7 : List (Nat × Sum) := []
theorem ec2 : i6 prog G ub7 := trivial
@[reducible] noncomputable def Ea2 : Sum := i8 (En ub7) Ee7
theorem Pa8 : g9 prog G 166 Ea2 := bd ff7 ec2
noncomputable def Cc1 : List (Nat × Sum) := []
theorem uc3 : i6 prog G Cc1 := trivial
noncomputable def Aa2 (x : Int) : Option (b7 × List b8) := (sl (decide (x < 0)) (some ((i (W (0 - x))), [])) (some ((i x), [])))
noncomputable def pa9 (x : Int) : Int := K5 (one r1I) (Aa2 x)
noncomputable def qa0 (x : Int) : Bool := okO (one r1I) (Aa2 x)
noncomputable def Qb3 : Sum := R3 cI (fun x => .guard (qa0 x) (.ret ((one r1I).enc (pa9 x), [])))
theorem Cc2 : g9 prog G 215 Qb3 := za1 (bd if2 uc3) (one r1I) (o := Aa2) fun x => r9 (by kernel_rfl)
noncomputable def zc0 : List (Nat × Sum) := [(215, Qb3), (166, Ea2)]
theorem od5 : i6 prog G zc0 := ⟨Cc2, Pa8, trivial⟩
structure la5 where
 is6 : Int
 f9 : Int
 b9 : Int
 g7 : Int
 ga0 : Int
 ga1 : Int
 ga2 : Int
structure S6 where
 is5 : Int
 is7 : Int
noncomputable def Xc1 (p : la5) (s : S6) : St := ⟨(.unk :: ((.ptr 0 0 0 0) :: ((.ptr 1 0 0 0) :: (.unk :: ((.ptr 2 0 0 0) :: ((i s.is5) :: ((i p.is6) :: ((i s.is7) :: (ra 38 []))))))))), [⟨0, 3, [[(i p.f9), (i p.b9), (i p.g7)]], true, false, 0⟩, ⟨0, 3, [[(i 0), (i 0), (i 0)]], true, false, 0⟩, ⟨0, 3, [[(i p.ga0), (i p.ga1), (i p.ga2)]], true, false, 0⟩]⟩
noncomputable def Aa3 {α : Type} (k : S6 → α) (e : Nat → α) (z : α) (p : la5) (s : S6) : α := (sl (decide (s.is7 > 0)) (sl (s.is7 == 0) z (k ⟨s.is7, (Int.tmod s.is5 s.is7)⟩)) (e 1))
noncomputable def ga4 (p : la5) (s : S6) : Stp S6 := Aa3 .next .exit .fail p s
noncomputable def Fb2 : Lo la5 S6 := ⟨En zc0, 0, Ee8, [1, 1, 1, 0, 1, 4, 4, 1, 0, 4, 1, 1, 4, 4], [1, 2, 4, 5, 6, 7], .p, [⟨((.s (.o .unk)) :: ((.s (.o (.ptr 0 0 0 0))) :: ((.s (.o (.ptr 1 0 0 0))) :: ((.s (.o .unk)) :: ((.s (.o (.ptr 2 0 0 0))) :: ((.s (.o (.int .i64))) :: ((.s (.o (.int .i64))) :: ((.s (.o (.int .i64))) :: (ru2 38 []))))))))), [⟨0, 3, true, (some [[(.o (.int .i64)), (.o (.int .i64)), (.o (.int .i64))]])⟩, ⟨0, 3, true, (some [[(.o (.lit .i64 0)), (.o (.lit .i64 0)), (.o (.lit .i64 0))]])⟩, ⟨0, 3, true, (some [[(.o (.int .i64)), (.o (.int .i64)), (.o (.int .i64))]])⟩], fun a H => (⟨(toI (slT a 6)), (toI (slT (rwT (elT H 0) 0) 0)), (toI (slT (rwT (elT H 0) 0) 1)), (toI (slT (rwT (elT H 0) 0) 2)), (toI (slT (rwT (elT H 2) 0) 0)), (toI (slT (rwT (elT H 2) 0) 1)), (toI (slT (rwT (elT H 2) 0) 2))⟩, ⟨(toI (slT a 5)), (toI (slT a 7))⟩)⟩], ga4, [(some 2, fun p s => ⟨(.unk :: ((.ptr 0 0 0 0) :: ((.ptr 1 0 0 0) :: (.unk :: ((.ptr 2 0 0 0) :: ((i s.is5) :: ((i p.is6) :: ((i s.is7) :: (ra 15 ((i s.is7) :: ((b (decide (s.is7 > 0))) :: (ra 21 [])))))))))))), [⟨0, 3, [[(i p.f9), (i p.b9), (i p.g7)]], true, false, 0⟩, ⟨0, 3, [[(i 0), (i 0), (i 0)]], true, false, 0⟩, ⟨0, 3, [[(i p.ga0), (i p.ga1), (i p.ga2)]], true, false, 0⟩]⟩)], Xc1⟩
theorem Xc2 : Fb2.Ok := Lo.ok [] (by kernel_rfl) .nil rfl (.cons (fun a H => by kernel_rfl) .nil) fun p s => (.of @Aa3 (fun F _ _ _ _ _ => by unfold Aa3; (repeat' apply k9 (f := F)) <;> rfl) (by kernel_rfl))
noncomputable def mb5 (x : V3) : Option (b7 × List b8) := let t1 := (pa9 x.x); let t2 := (lp (ga4 (⟨0, x.x, x.y, x.z, x.x, x.y, x.z⟩ : la5)) (⟨0, t1⟩ : S6)); let t3 := (pa9 x.y); let t4 := (lp (ga4 (⟨1, x.x, x.y, x.z, x.x, x.y, x.z⟩ : la5)) (⟨t2.2.is5, t3⟩ : S6)); let t5 := (pa9 x.z); let t6 := (lp (ga4 (⟨2, x.x, x.y, x.z, x.x, x.y, x.z⟩ : la5)) (⟨t4.2.is5, t5⟩ : S6)); (sl (x.x == (-9223372036854775808)) (some ((.tup [(.agg [(i 0), (i 0), (i 0)]), (i 0)]), [])) (sl (qa0 x.x) (sl (Nat.beq t2.1 1) (sl (x.y == (-9223372036854775808)) (some ((.tup [(.agg [(i 0), (i 0), (i 0)]), (i 0)]), [])) (sl (qa0 x.y) (sl (Nat.beq t4.1 1) (sl (x.z == (-9223372036854775808)) (some ((.tup [(.agg [(i 0), (i 0), (i 0)]), (i 0)]), [])) (sl (qa0 x.z) (sl (Nat.beq t6.1 1) (sl (t6.2.is5 == 0) (some ((.tup [(.agg [(i 0), (i 0), (i 0)]), (i 0)]), [])) (sl (t6.2.is5 == 0) none (sl (t6.2.is5 == 0) none (sl (t6.2.is5 == 0) none (some ((.tup [(.agg [(i (W (Int.tdiv x.x t6.2.is5))), (i (W (Int.tdiv x.y t6.2.is5))), (i (W (Int.tdiv x.z t6.2.is5)))]), (i t6.2.is5)]), [])))))) none) none)) none) none)) none) none))
noncomputable def La9 (x : V3) : V3 × Int := K5 (two r1V r1I) (mb5 x)
noncomputable def mb6 (x : V3) : Bool := okO (two r1V r1I) (mb5 x)
noncomputable def ec3 : Sum := R3 (R4 tV) (fun x => .guard (mb6 x) (.ret ((two r1V r1I).enc (La9 x), [])))
theorem zc1 : g9 prog G 167 ec3 := za1 (bd ff8 od5) (two r1V r1I) (o := mb5) fun x => sa6 (.s .p (.s .p (.s .p (.s (.s .p (.b (.l (.s .p (.s (.b (.s .p (.s .p (.b (.u Fb2.ls))))) .p))))) .p)))) [Fb2.pr] (by kernel_rfl) (.cons Xc2 .nil) (by kernel_rfl)
noncomputable def od6 : List (Nat × Sum) := [(167, ec3), (166, Ea2)]
theorem Xc3 : i6 prog G od6 := ⟨zc1, Pa8, trivial⟩
noncomputable def Za1 (x : Pln) : Option (b7 × List b8) := let t1 := (La9 x.n); (sl (decide (x.n.x < (-4608))) (some ((b false), [])) (sl (decide (x.n.x > 4608)) (some ((b false), [])) (sl (decide (x.n.y < (-4608))) (some ((b false), [])) (sl (decide (x.n.y > 4608)) (some ((b false), [])) (sl (decide (x.n.z < (-4608))) (some ((b false), [])) (sl (decide (x.n.z > 4608)) (some ((b false), [])) (sl (mb6 x.n) (sl (t1.2 == 1) (sl (decide (x.b ≥ (-2097152))) (some ((b (decide (x.b ≤ 2097152))), [])) (some ((b false), []))) (some ((b false), []))) none)))))))
noncomputable def Za2 (x : Pln) : Bool := K5 (one r1B) (Za1 x)
noncomputable def Za3 (x : Pln) : Bool := okO (one r1B) (Za1 x)
noncomputable def Qb4 : Sum := R3 (R4 tP) (fun x => .guard (Za3 x) (.ret ((one r1B).enc (Za2 x), [])))
theorem mc4 : g9 prog G 86 Qb4 := za1 (bd b86 Xc3) (one r1B) (o := Za1) fun x => r9 (by kernel_rfl)
noncomputable def mc5 : List (Nat × Sum) := [(86, Qb4)]
theorem Xc4 : i6 prog G mc5 := ⟨mc4, trivial⟩
structure Ha3 where
 c7 : List Pln
structure Y2 where
 is3 : Int
noncomputable def Nc1 (p : Ha3) (s : Y2) : St := ⟨((eL tP p.c7) :: (.unk :: (.unk :: ((i s.is3) :: (ra 15 []))))), []⟩
noncomputable def va0 {α : Type} (k : Y2 → α) (e : Nat → α) (z : α) (p : Ha3) (s : Y2) : α := let t1 := (Za2 (gL tP p.c7 s.is3.toNat)); (sl (decide (s.is3 < (↑(List.length p.c7) : Int))) (sl (inB s.is3 (List.length p.c7)) (sl (Za3 (gL tP p.c7 s.is3.toNat)) (sl (!t1) (e 1) (k ⟨(W (s.is3 + 1))⟩)) z) z) (e 2))
noncomputable def Aa4 (p : Ha3) (s : Y2) : Stp Y2 := va0 .next .exit .fail p s
noncomputable def wb6 : Lo Ha3 Y2 := ⟨En mc5, 0, Se4, [1, 1, 0, 1, 4, 4], [0, 3], .p, [⟨((.s (.c 4 (nL tP))) :: ((.s (.o .unk)) :: ((.s (.o .unk)) :: ((.s (.o (.int .i64))) :: (ru2 15 []))))), [], fun a H => (⟨(rL tP (slT a 0))⟩, ⟨(toI (slT a 3))⟩)⟩], Aa4, [(none, fun p s => ⟨[(i 12)], []⟩), (some 0, fun p s => ⟨((eL tP p.c7) :: (.unk :: (.unk :: ((i s.is3) :: (ra 3 ((i s.is3) :: ((eL tP p.c7) :: ((i (↑(List.length p.c7) : Int)) :: ((b (decide (s.is3 < (↑(List.length p.c7) : Int)))) :: (ra 8 [])))))))))), []⟩)], Nc1⟩
theorem Nc2 : wb6.Ok := Lo.ok [] (by kernel_rfl) .nil rfl (.cons (fun a H => by kernel_rfl) .nil) fun p s => (.of @va0 (fun F _ _ _ _ _ => by unfold va0; (repeat' apply k9 (f := F)) <;> rfl) (by kernel_rfl))
noncomputable def Za4 (x : List Pln) : Option (b7 × List b8) := let t1 := (lp (Aa4 (⟨(rt tP x)⟩ : Ha3)) (⟨0⟩ : Y2)); (sl (decide ((↑(List.length x) : Int) > 48)) (some ((i 2), [])) (sl ((cnE tP x) && true) (sl (Nat.beq t1.1 1) (some ((i 12), [])) (sl (Nat.beq t1.1 2) (some ((i 0), [])) none)) none))
noncomputable def Na3 (x : List Pln) : Int := K5 (one r1I) (Za4 x)
noncomputable def Na4 (x : List Pln) : Bool := okO (one r1I) (Za4 x)
noncomputable def ub8 : Sum := R3 (W7 tP) (fun x => .guard (Na4 x) (.ret ((one r1I).enc (Na3 x), [])))
theorem Fb3 : g9 prog G 16 ub8 := za1 (bd b16 Xc4) (one r1I) (o := Za4) fun x => sa6 (.s .p (.s .p (.s (.s .p (.b (.u wb6.ls))) .p))) [wb6.pr] (by kernel_rfl) (.cons Nc2 .nil) (by kernel_rfl)
noncomputable def Nd4 : List (Nat × Sum) := []
theorem Bd2 : i6 prog G Nd4 := trivial
noncomputable def Wb1 (x : V3) (y : V3) : Option (b7 × List b8) := (some ((.sl 0 0 6 0), [⟨50, 4, [[(i 1), (i 0), (i 0), (i y.x)], [(i (-1)), (i 0), (i 0), (i (W (0 - x.x)))], [(i 0), (i 1), (i 0), (i y.y)], [(i 0), (i (-1)), (i 0), (i (W (0 - x.y)))], [(i 0), (i 0), (i 1), (i y.z)], [(i 0), (i 0), (i (-1)), (i (W (0 - x.z)))]], true, false, 0⟩]))
noncomputable def Ab5 (x : V3) (y : V3) : List Pln := K5 (one (r1L tP)) (Wb1 x y)
noncomputable def kb0 (x : V3) (y : V3) : Bool := okO (one (r1L tP)) (Wb1 x y)
noncomputable def uc4 : Sum := oa1 (R4 tV) (R4 tV) (fun x y => .guard (kb0 x y) (.ret ((one (r1L tP)).enc (Ab5 x y), [])))
theorem Nc3 : g9 prog G 111 uc4 := gb5 (bd We5 Bd2) (one (r1L tP)) (o := Wb1) fun x y => r9 (by kernel_rfl)
noncomputable def Nd5 : List (Nat × Sum) := [(111, uc4)]
theorem Bd3 : i6 prog G Nd5 := ⟨Nc3, trivial⟩
noncomputable def Ab6 (x : List Pln) : Option (b7 × List b8) := let t1 := (Ab5 (⟨(-24), (-24), (-24)⟩ : V3) (⟨24, 24, 24⟩ : V3)); (sl (Nat.beq (len (o7 (fun k => (tP).row (gL tP x k)) (List.range (List.length x)))) 0) (sl (kb0 (⟨(-24), (-24), (-24)⟩ : V3) (⟨24, 24, 24⟩ : V3)) (sl (Nat.beq (len (o7 (fun k => (tP).row (gL tP t1 k)) (List.range (List.length t1)))) 0) (some ((.sl 0 0 0 0), [⟨50, 4, [], true, false, 0⟩])) (sl (Nat.beq 0 0 && Nat.ble ((0 + (len (o7 (fun k => (tP).row (gL tP t1 k)) (List.range (List.length t1))))) * 32) room) (some ((.sl 0 0 (0 + (len (o7 (fun k => (tP).row (gL tP t1 k)) (List.range (List.length t1))))) 0), [⟨50, 4, (app [] (o7 (fun k => (tP).row (gL tP t1 k)) (List.range (List.length t1)))), true, false, 0⟩])) none)) none) (sl (Nat.beq 0 0 && Nat.ble ((0 + (len (o7 (fun k => (tP).row (gL tP x k)) (List.range (List.length x))))) * 32) room) (sl (kb0 (⟨(-24), (-24), (-24)⟩ : V3) (⟨24, 24, 24⟩ : V3)) (sl (Nat.beq (len (o7 (fun k => (tP).row (gL tP t1 k)) (List.range (List.length t1)))) 0) (some ((.sl 0 0 (0 + (len (o7 (fun k => (tP).row (gL tP x k)) (List.range (List.length x))))) 0), [⟨50, 4, (app [] (o7 (fun k => (tP).row (gL tP x k)) (List.range (List.length x)))), true, false, 0⟩])) (sl (Nat.beq (0 + (len (o7 (fun k => (tP).row (gL tP x k)) (List.range (List.length x))))) (len (app [] (o7 (fun k => (tP).row (gL tP x k)) (List.range (List.length x))))) && Nat.ble (((0 + (len (o7 (fun k => (tP).row (gL tP x k)) (List.range (List.length x))))) + (len (o7 (fun k => (tP).row (gL tP t1 k)) (List.range (List.length t1))))) * 32) room) (some ((.sl 0 0 ((0 + (len (o7 (fun k => (tP).row (gL tP x k)) (List.range (List.length x))))) + (len (o7 (fun k => (tP).row (gL tP t1 k)) (List.range (List.length t1))))) 0), [⟨50, 4, (app (app [] (o7 (fun k => (tP).row (gL tP x k)) (List.range (List.length x)))) (o7 (fun k => (tP).row (gL tP t1 k)) (List.range (List.length t1)))), true, false, 0⟩])) none)) none) none))
noncomputable def Ab7 (x : List Pln) : List Pln := K5 (one (r1L tP)) (Ab6 x)
noncomputable def Ab8 (x : List Pln) : Bool := okO (one (r1L tP)) (Ab6 x)
noncomputable def uc5 : Sum := R3 (W7 tP) (fun x => .guard (Ab8 x) (.ret ((one (r1L tP)).enc (Ab7 x), [])))
theorem Nc4 : g9 prog G 91 uc5 := za1 (bd b91 Bd3) (one (r1L tP)) (o := Ab6) fun x => r9 (by kernel_rfl)
noncomputable def Xc5 : List (Nat × Sum) := [(16, ub8), (91, uc5), (90, wb5)]
theorem Nc5 : i6 prog G Xc5 := ⟨Fb3, Nc4, Qb2, trivial⟩
noncomputable def Pa9 (x : List Pln) : Option (b7 × List b8) := let t1 := (Na3 (rt tP x)); let t2 := (Ab7 (rt tP x)); let t3 := (Ha1 (rt tP t2)); (sl (okE tP x) (sl (Na4 (rt tP x)) (sl (t1 != 0) (some ((.v (.slice none 0 0)), [])) (sl (okE tP x) (sl (Ab8 (rt tP x)) (sl (okE tP t2) (sl (Ha2 (rt tP t2)) (some ((eL tX t3), [])) none) none) none) none)) none) none)
noncomputable def gb7 (x : List Pln) : List Pt := K5 (one (r1L tX)) (Pa9 x)
noncomputable def gb8 (x : List Pln) : Bool := okO (one (r1L tX)) (Pa9 x)
noncomputable def mc6 : Sum := R3 (W7 tP) (fun x => .guard (gb8 x) (.ret ((one (r1L tX)).enc (gb7 x), [])))
theorem Xc6 : g9 prog G 19 mc6 := za1 (bd b19 Nc5) (one (r1L tX)) (o := Pa9) fun x => r9 (by kernel_rfl)
noncomputable def Qb5 : List (Nat × Sum) := [(90, wb5), (37, Fb1)]
theorem od7 : i6 prog G Qb5 := ⟨Qb2, Pb9, trivial⟩
structure Qa0 where
 c7 : List Pln
 J4 : List Pt
 is4 : Int
structure la6 where
 bs5 : Bool
 is6 : Int
noncomputable def Xc7 (p : Qa0) (s : la6) : St := ⟨((eL tP p.c7) :: (.unk :: (.unk :: ((eL tX p.J4) :: ((i p.is4) :: ((b s.bs5) :: ((i s.is6) :: (ra 29 [])))))))), []⟩
noncomputable def Aa5 {α : Type} (k : la6 → α) (e : Nat → α) (z : α) (p : Qa0) (s : la6) : α := let t1 := (La8 (gL tP p.c7 p.is4.toNat) (gL tX p.J4 s.is6.toNat)); (sl (decide (s.is6 < (↑(List.length p.J4) : Int))) (sl s.bs5 (k ⟨true, (W (s.is6 + 1))⟩) (sl (inB p.is4 (List.length p.c7)) (sl (inB s.is6 (List.length p.J4)) (k ⟨(decide (t1 > 0)), (W (s.is6 + 1))⟩) z) z)) (e 1))
noncomputable def wa6 (p : Qa0) (s : la6) : Stp la6 := Aa5 .next .exit .fail p s
noncomputable def Fb4 : Lo Qa0 la6 := ⟨En Qb5, 0, Le5, [1, 1, 0, 1, 4, 4, 1, 0, 4, 1, 0, 1, 4, 4], [0, 3, 4, 5, 6], .p, [⟨((.s (.c 4 (nL tP))) :: ((.s (.o .unk)) :: ((.s (.o .unk)) :: ((.s (.c 4 (nL tX))) :: ((.s (.o (.int .i64))) :: ((.s (.o .bool)) :: ((.s (.o (.int .i64))) :: (ru2 29 [])))))))), [], fun a H => (⟨(rL tP (slT a 0)), (rL tX (slT a 3)), (toI (slT a 4))⟩, ⟨(toB (slT a 5)), (toI (slT a 6))⟩)⟩], wa6, [(some 2, fun p s => ⟨((eL tP p.c7) :: (.unk :: (.unk :: ((eL tX p.J4) :: ((i p.is4) :: ((b s.bs5) :: ((i s.is6) :: (ra 8 ((i s.is6) :: ((eL tX p.J4) :: ((i (↑(List.length p.J4) : Int)) :: ((b (decide (s.is6 < (↑(List.length p.J4) : Int)))) :: (ra 17 []))))))))))))), []⟩)], Xc7⟩
theorem Xc8 : Fb4.Ok := Lo.ok [] (by kernel_rfl) .nil rfl (.cons (fun a H => by kernel_rfl) .nil) fun p s => (.of @Aa5 (fun F _ _ _ _ _ => by unfold Aa5; (repeat' apply k9 (f := F)) <;> rfl) (by kernel_rfl))
structure Qa1 where
structure da9 where
 c7 : List Pln
 J4 : List Pt
 is4 : Int
noncomputable def Xc9 (p : Qa1) (s : da9) : St := ⟨((eL tP s.c7) :: (.unk :: (.unk :: ((eL tX s.J4) :: ((i s.is4) :: (ra 31 [])))))), []⟩
noncomputable def Aa6 {α : Type} (k : da9 → α) (e : Nat → α) (z : α) (p : Qa1) (s : da9) : α := let t1 := (lp (wa6 (⟨(rt tP s.c7), (rt tX s.J4), s.is4⟩ : Qa0)) (⟨false, 0⟩ : la6)); (sl (decide (s.is4 < (↑(List.length s.c7) : Int))) (sl ((cnE tP s.c7) && ((cnE tX s.J4) && true)) (sl (Nat.beq t1.1 1) (sl (!t1.2.bs5) (e 1) (k ⟨(rt tP s.c7), (rt tX s.J4), (W (s.is4 + 1))⟩)) z) z) (e 2))
noncomputable def Ha4 (p : Qa1) (s : da9) : Stp da9 := Aa6 .next .exit .fail p s
noncomputable def Fb5 : Lo Qa1 da9 := ⟨En Qb5, 0, Le5, [1, 1, 0, 1, 4, 4], [0, 3, 4], (.s .p (.s (.b (.s .p (.s (.s .p (.b (.u Fb4.ls))) .p))) .p)), [⟨((.s (.c 4 (nL tP))) :: ((.s (.o .unk)) :: ((.s (.o .unk)) :: ((.s (.c 4 (nL tX))) :: ((.s (.o (.int .i64))) :: (ru2 31 [])))))), [], fun a H => (⟨⟩, ⟨(rL tP (slT a 0)), (rL tX (slT a 3)), (toI (slT a 4))⟩)⟩], Ha4, [(none, fun p s => ⟨[(b false)], []⟩), (some 0, fun p s => ⟨((eL tP s.c7) :: (.unk :: (.unk :: ((eL tX s.J4) :: ((i s.is4) :: (ra 4 ((i s.is4) :: ((eL tP s.c7) :: ((i (↑(List.length s.c7) : Int)) :: ((b (decide (s.is4 < (↑(List.length s.c7) : Int)))) :: (ra 23 []))))))))))), []⟩)], Xc9⟩
theorem Yc0 : Fb5.Ok := Lo.ok [Fb4.pr] (by kernel_rfl) (.cons Xc8 .nil) rfl (.cons (fun a H => by kernel_rfl) .nil) fun p s => (.of @Aa6 (fun F _ _ _ _ _ => by unfold Aa6; (repeat' apply k9 (f := F)) <;> rfl) (by kernel_rfl))
noncomputable def mb7 (x : List Pln) : Option (b7 × List b8) := let t1 := (Ha1 (rt tP x)); let t2 := (lp (Ha4 (⟨⟩ : Qa1)) (⟨(rt tP x), (rt tX t1), 0⟩ : da9)); (sl (okE tP x) (sl (Ha2 (rt tP x)) (sl ((cnE tP x) && ((cnE tX t1) && true)) (sl (Nat.beq t2.1 1) (some ((b false), [])) (sl (Nat.beq t2.1 2) (some ((b true), [])) none)) none) none) none)
noncomputable def Fb6 (x : List Pln) : Bool := K5 (one r1B) (mb7 x)
noncomputable def Fb7 (x : List Pln) : Bool := okO (one r1B) (mb7 x)
noncomputable def Nc6 : Sum := R3 (W7 tP) (fun x => .guard (Fb7 x) (.ret ((one r1B).enc (Fb6 x), [])))
theorem Bd4 : g9 prog G 93 Nc6 := za1 (bd b93 od7) (one r1B) (o := mb7) fun x => sa6 (.s .p (.s .p (.s (.s .p (.b (.u Fb5.ls))) .p))) [Fb5.pr] (by kernel_rfl) (.cons Yc0 .nil) (by kernel_rfl)
noncomputable def Bd5 : List (Nat × Sum) := [(16, ub8), (91, uc5), (93, Nc6)]
theorem od8 : i6 prog G Bd5 := ⟨Fb3, Nc4, Bd4, trivial⟩
noncomputable def mb8 (x : List Pln) : Option (b7 × List b8) := let t1 := (Na3 (rt tP x)); let t2 := (Ab7 (rt tP x)); let t3 := (Fb6 (rt tP t2)); (sl (okE tP x) (sl (Na4 (rt tP x)) (sl (t1 == 0) (sl (okE tP x) (sl (Ab8 (rt tP x)) (sl (okE tP t2) (sl (Fb7 (rt tP t2)) (some ((b t3), [])) none) none) none) none) (some ((b false), []))) none) none)
noncomputable def Va4 (x : List Pln) : Bool := K5 (one r1B) (mb8 x)
noncomputable def Ma0 (x : List Pln) : Bool := okO (one r1B) (mb8 x)
noncomputable def ec4 : Sum := R3 (W7 tP) (fun x => .guard (Ma0 x) (.ret ((one r1B).enc (Va4 x), [])))
theorem zc2 : g9 prog G 21 ec4 := za1 (bd b21 od8) (one r1B) (o := mb8) fun x => r9 (by kernel_rfl)
noncomputable def Nd6 : List (Nat × Sum) := []
theorem Bd6 : i6 prog G Nd6 := trivial
noncomputable def Ab9 (x : Int) (y : Int) : Option (b7 × List b8) := (sl (decide (y < 1)) (some ((i 0), [])) (sl (y == 0) none (sl (y == 0) none (some ((i (Int.tmod (W ((Int.tmod x y) + y)) y)), [])))))
noncomputable def wa7 (x : Int) (y : Int) : Int := K5 (one r1I) (Ab9 x y)
noncomputable def qa1 (x : Int) (y : Int) : Bool := okO (one r1I) (Ab9 x y)
noncomputable def Bb0 : Sum := oa1 cI cI (fun x y => .guard (qa1 x y) (.ret ((one r1I).enc (wa7 x y), [])))
theorem Fb8 : g9 prog G 47 Bb0 := gb5 (bd b47 Bd6) (one r1I) (o := Ab9) fun x y => r9 (by kernel_rfl)
structure te2 where
 Ze9 : List Pt
structure te3 where
 is8 : Int
 ga0 : Int
 ga1 : Int
 ga2 : Int
 Xb5 : Int
 Xb6 : Int
 Xb7 : Int
end Go.Ev.Ce
