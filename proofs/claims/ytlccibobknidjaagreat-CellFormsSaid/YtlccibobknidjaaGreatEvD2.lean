/- Own work: a part of the proof. -/
import Derived.Test.YtlccibobknidjaaGreatEvD0
set_option linter.unusedVariables false
set_option linter.unusedSimpArgs false
set_option linter.unnecessarySimpa false
set_option linter.unusedSectionVars false
namespace Go.Ev.Ce
open Go Go.Ev Go.Ev.L Go.Proofs
set_option maxRecDepth 100000
noncomputable def cd6 : List (Nat × Sum) := []
theorem Qc4 : i7 prog G cd6 := trivial
noncomputable def Ya4 (x : Pln) (y : Pt) : Int := (W ((W ((W ((W (x.b * y.pw)) - (W (x.n.x * y.px)))) - (W (x.n.y * y.py)))) - (W (x.n.z * y.pz))))
noncomputable def Mb2 : Sum := ga8 (P7 tP) (P7 tX) (fun x y => .ret ((one r1I).enc (Ya4 x y), []))
theorem fc3 : f6 prog G 37 Mb2 := ta9 (bd b37 Qc4) fun x y => p7 (by kernel_rfl)
noncomputable def od9 : List (Nat × Sum) := []
theorem cd7 : i7 prog G od9 := trivial
noncomputable def Wa6 (x : V3) (y : V3) : V3 := (⟨(W (x.x + y.x)), (W (x.y + y.y)), (W (x.z + y.z))⟩ : V3)
noncomputable def Jc8 : Sum := ga8 (P7 tV) (P7 tV) (fun x y => .ret ((one r1V).enc (Wa6 x y), []))
theorem pd0 : f6 prog G 126 Jc8 := ta9 (bd ye3 cd7) fun x y => p7 (by kernel_rfl)
noncomputable def pd1 : List (Nat × Sum) := []
theorem cd8 : i7 prog G pd1 := trivial
noncomputable def Ba9 (x : V3) (y : V3) : Int := (W ((W ((W (x.x * y.x)) + (W (x.y * y.y)))) + (W (x.z * y.z))))
noncomputable def Fb7 : Sum := ga8 (P7 tV) (P7 tV) (fun x y => .ret ((one r1I).enc (Ba9 x y), []))
theorem Mb3 : f6 prog G 130 Fb7 := ta9 (bd ye5 cd8) fun x y => p7 (by kernel_rfl)
noncomputable def Qc5 : List (Nat × Sum) := []
theorem Bc0 : i7 prog G Qc5 := trivial
noncomputable def N3 (x : V3) (y : V3) : V3 := (⟨(W ((W (x.y * y.z)) - (W (x.z * y.y)))), (W ((W (x.z * y.x)) - (W (x.x * y.z)))), (W ((W (x.x * y.y)) - (W (x.y * y.x))))⟩ : V3)
noncomputable def Ab6 : Sum := ga8 (P7 tV) (P7 tV) (fun x y => .ret ((one r1V).enc (N3 x y), []))
theorem Sb6 : f6 prog G 186 Ab6 := ta9 (bd Ae6 Bc0) fun x y => p7 (by kernel_rfl)
noncomputable def Bc1 : List (Nat × Sum) := []
theorem sc5 : i7 prog G Bc1 := trivial
noncomputable def L7 (x : V3) (y : Int) : V3 := (⟨(W (x.x * y)), (W (x.y * y)), (W (x.z * y))⟩ : V3)
noncomputable def Sb7 : Sum := ga8 (P7 tV) cI (fun x y => .ret ((one r1V).enc (L7 x y), []))
theorem Bc2 : f6 prog G 219 Sb7 := ta9 (bd Be4 sc5) fun x y => p7 (by kernel_rfl)
noncomputable def Jb1 : List (Nat × Sum) := []
theorem sc6 : i7 prog G Jb1 := trivial
structure qa3 where
structure S4 where
 is0 : Int
 is1 : Int
noncomputable def ic4 (p : qa3) (s : S4) : St := ⟨((i s.is0) :: ((i s.is1) :: (ra 10 []))), []⟩
noncomputable def ga9 {α : Type} (k : S4 → α) (e : Nat → α) (z : α) (p : qa3) (s : S4) : α := (sl (s.is1 != 0) (sl (s.is1 == 0) z (k ⟨s.is1, (Int.tmod s.is0 s.is1)⟩)) (e 1))
noncomputable def la0 (p : qa3) (s : S4) : Stp S4 := ga9 .next .exit .fail p s
noncomputable def Ya5 : Lo qa3 S4 := ⟨En Jb1, 0, be4, [1, 0, 4, 4], [0, 1], .p, [⟨((.s (.o (.int .i64))) :: ((.s (.o (.int .i64))) :: (ru2 10 []))), [], fun a H => (⟨⟩, ⟨(toI (slT a 0)), (toI (slT a 1))⟩)⟩], la0, [(some 0, fun p s => ⟨((i s.is0) :: ((i s.is1) :: (ra 3 ((i s.is1) :: ((b (s.is1 != 0)) :: (ra 5 [])))))), []⟩)], ic4⟩
theorem ic5 : Ya5.Ok := Lo.ok [] (by kernel_rfl) .nil rfl (.cons (fun a H => by kernel_rfl) .nil) fun p s => (.of @ga9 (fun F _ _ _ _ _ => by unfold ga9; (repeat' apply k9 (f := F)) <;> rfl) (by kernel_rfl))
noncomputable def Ea3 (x : Int) (y : Int) : Option (b7 × List b8) := let t1 := (lp (la0 (⟨⟩ : qa3)) (⟨x, y⟩ : S4)); (sl (Nat.beq t1.1 1) (some ((i t1.2.is0), [])) none)
noncomputable def L8 (x : Int) (y : Int) : Int := G6 (one r1I) (Ea3 x y)
noncomputable def L9 (x : Int) (y : Int) : Bool := okO (one r1I) (Ea3 x y)
noncomputable def Sb8 : Sum := ga8 cI cI (fun x y => .guard (L9 x y) (.ret ((one r1I).enc (L8 x y), [])))
theorem Bc3 : f6 prog G 220 Sb8 := cb4 (bd Be5 sc6) (one r1I) (o := Ea3) fun x y => wa0 (.s .p (.s (.b (.u Ya5.ls)) .p)) [Ya5.pr] (by kernel_rfl) (.cons ic5 .nil) (by kernel_rfl)
noncomputable def cd9 : List (Nat × Sum) := [(186, Ab6), (130, Fb7), (219, Sb7), (126, Jc8), (220, Sb8)]
theorem Qc6 : i7 prog G cd9 := ⟨Sb6, Mb3, Bc2, pd0, Bc3, trivial⟩
noncomputable def Ya6 (x : Pln) (y : Pln) (z : Pln) : Option (b7 × List b8) := let t1 := (N3 y.n z.n); let t2 := (Ba9 x.n t1); let t3 := (L7 t1 x.b); let t4 := (N3 z.n x.n); let t5 := (L7 t4 y.b); let t6 := (Wa6 t3 t5); let t7 := (N3 x.n y.n); let t8 := (L7 t7 z.b); let t9 := (Wa6 t6 t8); let t10 := (L7 t9 (-1)); let t11 := (L8 (if (W (0 - t10.x)) > t10.x then (W (0 - t10.x)) else t10.x) (if (W (0 - t10.y)) > t10.y then (W (0 - t10.y)) else t10.y)); let t12 := (L8 (if (W (0 - t10.z)) > t10.z then (W (0 - t10.z)) else t10.z) (W (0 - t2))); let t13 := (L8 t11 t12); let t14 := (L8 (if (W (0 - t9.x)) > t9.x then (W (0 - t9.x)) else t9.x) (if (W (0 - t9.y)) > t9.y then (W (0 - t9.y)) else t9.y)); let t15 := (L8 (if (W (0 - t9.z)) > t9.z then (W (0 - t9.z)) else t9.z) t2); let t16 := (L8 t14 t15); (sl (t2 == 0) (some ((.tup [(.agg [(i 0), (i 0), (i 0), (i 0)]), (b false)]), [])) (sl (decide (t2 < 0)) (sl (L9 (if (W (0 - t10.x)) > t10.x then (W (0 - t10.x)) else t10.x) (if (W (0 - t10.y)) > t10.y then (W (0 - t10.y)) else t10.y)) (sl (L9 (if (W (0 - t10.z)) > t10.z then (W (0 - t10.z)) else t10.z) (W (0 - t2))) (sl (L9 t11 t12) (sl (t13 == 0) none (sl (t13 == 0) none (sl (t13 == 0) none (sl (t13 == 0) none (some ((.tup [(.agg [(i (W (Int.tdiv t10.x t13))), (i (W (Int.tdiv t10.y t13))), (i (W (Int.tdiv t10.z t13))), (i (W (Int.tdiv (W (0 - t2)) t13)))]), (b true)]), [])))))) none) none) none) (sl (L9 (if (W (0 - t9.x)) > t9.x then (W (0 - t9.x)) else t9.x) (if (W (0 - t9.y)) > t9.y then (W (0 - t9.y)) else t9.y)) (sl (L9 (if (W (0 - t9.z)) > t9.z then (W (0 - t9.z)) else t9.z) t2) (sl (L9 t14 t15) (sl (t16 == 0) none (sl (t16 == 0) none (sl (t16 == 0) none (sl (t16 == 0) none (some ((.tup [(.agg [(i (W (Int.tdiv t9.x t16))), (i (W (Int.tdiv t9.y t16))), (i (W (Int.tdiv t9.z t16))), (i (W (Int.tdiv t2 t16)))]), (b true)]), [])))))) none) none) none)))
noncomputable def Ya7 (x : Pln) (y : Pln) (z : Pln) : Pt × Bool := G6 (two r1X r1B) (Ya6 x y z)
noncomputable def Ya8 (x : Pln) (y : Pln) (z : Pln) : Bool := okO (two r1X r1B) (Ya6 x y z)
noncomputable def sc7 : Sum := ic3 (P7 tP) (P7 tP) (P7 tP) (fun x y z => .guard (Ya8 x y z) (.ret ((two r1X r1B).enc (Ya7 x y z), [])))
theorem dd0 : f6 prog G 172 sc7 := Rd4 (bd ze5 Qc6) (two r1X r1B) (o := Ya6) fun x y z => p7 (by kernel_rfl)
noncomputable def Jc9 : List (Nat × Sum) := [(37, Mb2)]
theorem pd2 : i7 prog G Jc9 := ⟨fc3, trivial⟩
structure Ya9 where
 c8 : List Pln
 g7 : Int
 c7 : Int
 g8 : Int
 d8 : Int
structure ka2 where
 is5 : Int
noncomputable def dd1 (p : Ya9) (s : ka2) : St := ⟨((eL tP p.c8) :: (.unk :: (.unk :: ((.ptr 0 0 0 0) :: (.unk :: ((i s.is5) :: (ra 13 []))))))), [⟨0, 4, [[(i p.g7), (i p.c7), (i p.g8), (i p.d8)]], true, false, 0⟩]⟩
noncomputable def Ea4 {α : Type} (k : ka2 → α) (e : Nat → α) (z : α) (p : Ya9) (s : ka2) : α := let t1 := (Ya4 (gL tP p.c8 s.is5.toNat) (⟨p.g7, p.c7, p.g8, p.d8⟩ : Pt)); (sl (decide (s.is5 < (↑(List.length p.c8) : Int))) (sl (inB s.is5 (List.length p.c8)) (sl (decide (t1 < 0)) (e 1) (k ⟨(W (s.is5 + 1))⟩)) z) (e 2))
noncomputable def Na0 (p : Ya9) (s : ka2) : Stp ka2 := Ea4 .next .exit .fail p s
noncomputable def Mb4 : Lo Ya9 ka2 := ⟨En Jc9, 0, ae2, [1, 0, 1, 4, 4], [0, 3, 5], .p, [⟨((.s (.c 4 (nL tP))) :: ((.s (.o .unk)) :: ((.s (.o .unk)) :: ((.s (.o (.ptr 0 0 0 0))) :: ((.s (.o .unk)) :: ((.s (.o (.int .i64))) :: (ru2 13 []))))))), [⟨0, 4, true, (some [[(.o (.int .i64)), (.o (.int .i64)), (.o (.int .i64)), (.o (.int .i64))]])⟩], fun a H => (⟨(rL tP (slT a 0)), (toI (slT (rwT (elT H 0) 0) 0)), (toI (slT (rwT (elT H 0) 0) 1)), (toI (slT (rwT (elT H 0) 0) 2)), (toI (slT (rwT (elT H 0) 0) 3))⟩, ⟨(toI (slT a 5))⟩)⟩], Na0, [(none, fun p s => ⟨[(b false)], []⟩), (some 0, fun p s => ⟨((eL tP p.c8) :: (.unk :: (.unk :: ((.ptr 0 0 0 0) :: (.unk :: ((i s.is5) :: ((i s.is5) :: ((eL tP p.c8) :: ((i (↑(List.length p.c8) : Int)) :: ((b (decide (s.is5 < (↑(List.length p.c8) : Int)))) :: (ra 9 []))))))))))), [⟨0, 4, [[(i p.g7), (i p.c7), (i p.g8), (i p.d8)]], true, false, 0⟩]⟩)], dd1⟩
theorem dd2 : Mb4.Ok := Lo.ok [] (by kernel_rfl) .nil rfl (.cons (fun a H => by kernel_rfl) .nil) fun p s => (.of @Ea4 (fun F _ _ _ _ _ => by unfold Ea4; (repeat' apply k9 (f := F)) <;> rfl) (by kernel_rfl))
noncomputable def Ab7 (x : List Pln) (y : Pt) : Option (b7 × List b8) := let t1 := (lp (Na0 (⟨(rt tP x), y.px, y.py, y.pz, y.pw⟩ : Ya9)) (⟨0⟩ : ka2)); (sl ((cnE tP x) && true) (sl (Nat.beq t1.1 1) (some ((b false), [])) (sl (Nat.beq t1.1 2) (some ((b true), [])) none)) none)
noncomputable def mb3 (x : List Pln) (y : Pt) : Bool := G6 (one r1B) (Ab7 x y)
noncomputable def mb4 (x : List Pln) (y : Pt) : Bool := okO (one r1B) (Ab7 x y)
noncomputable def dd3 : Sum := ga8 (T5 tP) (P7 tX) (fun x y => .guard (mb4 x y) (.ret ((one r1B).enc (mb3 x y), [])))
theorem Bd9 : f6 prog G 110 dd3 := cb4 (bd xe6 pd2) (one r1B) (o := Ab7) fun x y => wa0 (.s .p (.s (.s .p (.b (.u Mb4.ls))) .p)) [Mb4.pr] (by kernel_rfl) (.cons dd2 .nil) (by kernel_rfl)
noncomputable def Sb9 : List (Nat × Sum) := []
theorem Bc4 : i7 prog G Sb9 := trivial
structure wa6 where
 y6 : List Pt
 g7 : Int
 c7 : Int
 g8 : Int
 d8 : Int
structure Q7 where
 is5 : Int
noncomputable def sc8 (p : wa6) (s : Q7) : St := ⟨((eL tX p.y6) :: (.unk :: (.unk :: ((.ptr 0 0 0 0) :: (.unk :: ((i s.is5) :: (ra 12 []))))))), [⟨0, 4, [[(i p.g7), (i p.c7), (i p.g8), (i p.d8)]], true, false, 0⟩]⟩
noncomputable def la1 {α : Type} (k : Q7 → α) (e : Nat → α) (z : α) (p : wa6) (s : Q7) : α := (sl (decide (s.is5 < (↑(List.length p.y6) : Int))) (sl (inB s.is5 (List.length p.y6)) (sl (((gL tX p.y6 s.is5.toNat).px == p.g7) && (((gL tX p.y6 s.is5.toNat).py == p.c7) && (((gL tX p.y6 s.is5.toNat).pz == p.g8) && (((gL tX p.y6 s.is5.toNat).pw == p.d8) && true)))) (e 1) (k ⟨(W (s.is5 + 1))⟩)) z) (e 2))
noncomputable def qa4 (p : wa6) (s : Q7) : Stp Q7 := la1 .next .exit .fail p s
noncomputable def ib2 : Lo wa6 Q7 := ⟨En Sb9, 0, ae7, [1, 0, 1, 4, 4], [0, 3, 5], .p, [⟨((.s (.c 4 (nL tX))) :: ((.s (.o .unk)) :: ((.s (.o .unk)) :: ((.s (.o (.ptr 0 0 0 0))) :: ((.s (.o .unk)) :: ((.s (.o (.int .i64))) :: (ru2 12 []))))))), [⟨0, 4, true, (some [[(.o (.int .i64)), (.o (.int .i64)), (.o (.int .i64)), (.o (.int .i64))]])⟩], fun a H => (⟨(rL tX (slT a 0)), (toI (slT (rwT (elT H 0) 0) 0)), (toI (slT (rwT (elT H 0) 0) 1)), (toI (slT (rwT (elT H 0) 0) 2)), (toI (slT (rwT (elT H 0) 0) 3))⟩, ⟨(toI (slT a 5))⟩)⟩], qa4, [(none, fun p s => ⟨[(b true)], []⟩), (some 0, fun p s => ⟨((eL tX p.y6) :: (.unk :: (.unk :: ((.ptr 0 0 0 0) :: (.unk :: ((i s.is5) :: ((i s.is5) :: ((eL tX p.y6) :: ((i (↑(List.length p.y6) : Int)) :: ((b (decide (s.is5 < (↑(List.length p.y6) : Int)))) :: (ra 8 []))))))))))), [⟨0, 4, [[(i p.g7), (i p.c7), (i p.g8), (i p.d8)]], true, false, 0⟩]⟩)], sc8⟩
theorem sc9 : ib2.Ok := Lo.ok [] (by kernel_rfl) .nil rfl (.cons (fun a H => by kernel_rfl) .nil) fun p s => (.of @la1 (fun F _ _ _ _ _ => by unfold la1; (repeat' apply k9 (f := F)) <;> rfl) (by kernel_rfl))
noncomputable def Na1 (x : List Pt) (y : Pt) : Option (b7 × List b8) := let t1 := (lp (qa4 (⟨(rt tX x), y.px, y.py, y.pz, y.pw⟩ : wa6)) (⟨0⟩ : Q7)); (sl ((cnE tX x) && true) (sl (Nat.beq t1.1 1) (some ((b true), [])) (sl (Nat.beq t1.1 2) (some ((b false), [])) none)) none)
noncomputable def Ca0 (x : List Pt) (y : Pt) : Bool := G6 (one r1B) (Na1 x y)
noncomputable def Ca1 (x : List Pt) (y : Pt) : Bool := okO (one r1B) (Na1 x y)
noncomputable def fc4 : Sum := ga8 (T5 tX) (P7 tX) (fun x y => .guard (Ca1 x y) (.ret ((one r1B).enc (Ca0 x y), [])))
theorem Qc7 : f6 prog G 173 fc4 := cb4 (bd ze6 Bc4) (one r1B) (o := Na1) fun x y => wa0 (.s .p (.s (.s .p (.b (.u ib2.ls))) .p)) [ib2.pr] (by kernel_rfl) (.cons sc9 .nil) (by kernel_rfl)
noncomputable def Ea5 : List (Nat × Sum) := [(172, sc7), (110, dd3), (173, fc4)]
theorem ic6 : i7 prog G Ea5 := ⟨dd0, Bd9, Qc7, trivial⟩
structure H6 where
 c8 : List Pln
 is4 : Int
 is5 : Int
structure o3 where
 ph : Nat
 is6 : Int
 ns3 : Nat
 eh0 : List (List b7)
noncomputable def Tb0 (p : H6) (s : o3) : St := ⟨((eL tP p.c8) :: (.unk :: (.unk :: ((.v (.slice none 0 0)) :: ((i p.is4) :: ((i p.is5) :: ((i s.is6) :: (ra 57 [])))))))), []⟩
noncomputable def Tb1 (p : H6) (s : o3) : St := ⟨((eL tP p.c8) :: (.unk :: (.unk :: ((.sl 0 0 s.ns3 0) :: ((i p.is4) :: ((i p.is5) :: ((i s.is6) :: (ra 57 [])))))))), [⟨54, 4, s.eh0, true, false, 0⟩]⟩
noncomputable def Zb8 (p : H6) (s : o3) : St := (sel (Nat.beq s.ph 1) (Tb1 p s) (Tb0 p s))
noncomputable def M0 {α : Type} (k : o3 → α) (e : Nat → α) (z : α) (p : H6) (s : o3) : α := let t1 := (Ya7 (gL tP p.c8 p.is4.toNat) (gL tP p.c8 p.is5.toNat) (gL tP p.c8 s.is6.toNat)); let t2 := (mb3 (rt tP p.c8) t1.1); let t3 := (Ca0 [] t1.1); (sl (decide (s.is6 < (↑(List.length p.c8) : Int))) (sl (inB p.is4 (List.length p.c8)) (sl (inB p.is5 (List.length p.c8)) (sl (inB s.is6 (List.length p.c8)) (sl (Ya8 (gL tP p.c8 p.is4.toNat) (gL tP p.c8 p.is5.toNat) (gL tP p.c8 s.is6.toNat)) (sl t1.2 (sl (okE tP p.c8) (sl (mb4 (rt tP p.c8) t1.1) (sl t2 (sl (Ca1 [] t1.1) (sl (!t3) (k ⟨1, (W (s.is6 + 1)), 1, [[(i t1.1.px), (i t1.1.py), (i t1.1.pz), (i t1.1.pw)]]⟩) (k ⟨0, (W (s.is6 + 1)), 0, []⟩)) z) (k ⟨0, (W (s.is6 + 1)), 0, []⟩)) z) z) (k ⟨0, (W (s.is6 + 1)), 0, []⟩)) z) z) z) z) (e 1))
noncomputable def M1 {α : Type} (k : o3 → α) (e : Nat → α) (z : α) (p : H6) (s : o3) : α := let t1 := (Ya7 (gL tP p.c8 p.is4.toNat) (gL tP p.c8 p.is5.toNat) (gL tP p.c8 s.is6.toNat)); let t2 := (mb3 (rt tP p.c8) t1.1); let t3 := (Ca0 (slR tX s.eh0 0 s.ns3) t1.1); (sl (decide (s.is6 < (↑(List.length p.c8) : Int))) (sl (inB p.is4 (List.length p.c8)) (sl (inB p.is5 (List.length p.c8)) (sl (inB s.is6 (List.length p.c8)) (sl (Ya8 (gL tP p.c8 p.is4.toNat) (gL tP p.c8 p.is5.toNat) (gL tP p.c8 s.is6.toNat)) (sl t1.2 (sl (okE tP p.c8) (sl (mb4 (rt tP p.c8) t1.1) (sl t2 (sl (okS tX s.eh0 0 s.ns3) (sl (Ca1 (slR tX s.eh0 0 s.ns3) t1.1) (sl (!t3) (sl (Nat.beq s.ns3 (len s.eh0) && Nat.ble ((s.ns3 + 1) * 32) room) (k ⟨1, (W (s.is6 + 1)), (s.ns3 + 1), (app s.eh0 [[(i t1.1.px), (i t1.1.py), (i t1.1.pz), (i t1.1.pw)]])⟩) z) (k ⟨1, (W (s.is6 + 1)), s.ns3, s.eh0⟩)) z) z) (k ⟨1, (W (s.is6 + 1)), s.ns3, s.eh0⟩)) z) z) (k ⟨1, (W (s.is6 + 1)), s.ns3, s.eh0⟩)) z) z) z) z) (e 2))
noncomputable def J7 (p : H6) (s : o3) : Stp o3 := (sel (Nat.beq s.ph 1) (M1 .next .exit .fail p s) (M0 .next .exit .fail p s))
noncomputable def Ra2 : Lo H6 o3 := ⟨En Ea5, 0, Td5, [1, 1, 0, 1, 4, 4, 1, 0, 4, 1, 4, 4, 1, 0, 4, 1, 4, 4], [0, 3, 4, 5, 6], .p, [⟨((.s (.c 4 (nL tP))) :: ((.s (.o .unk)) :: ((.s (.o .unk)) :: ((.s (.o .nil)) :: ((.s (.o (.int .i64))) :: ((.s (.o (.int .i64))) :: ((.s (.o (.int .i64))) :: (ru2 57 [])))))))), [], fun a H => (⟨(rL tP (slT a 0)), (toI (slT a 4)), (toI (slT a 5))⟩, ⟨0, (toI (slT a 6)), 0, []⟩)⟩, ⟨((.s (.c 4 (nL tP))) :: ((.s (.o .unk)) :: ((.s (.o .unk)) :: ((.s (.o (.sl 0 0 (some 0) none))) :: ((.s (.o (.int .i64))) :: ((.s (.o (.int .i64))) :: ((.s (.o (.int .i64))) :: (ru2 57 [])))))))), [⟨54, 4, true, none⟩], fun a H => (⟨(rL tP (slT a 0)), (toI (slT a 4)), (toI (slT a 5))⟩, ⟨1, (toI (slT a 6)), (slN (slT a 3)), (elT H 0)⟩)⟩], J7, [(some 4, fun p s => ⟨((eL tP p.c8) :: (.unk :: (.unk :: ((.v (.slice none 0 0)) :: ((i p.is4) :: ((i p.is5) :: ((i s.is6) :: (ra 18 ((i s.is6) :: ((eL tP p.c8) :: ((i (↑(List.length p.c8) : Int)) :: ((b (decide (s.is6 < (↑(List.length p.c8) : Int)))) :: (ra 35 []))))))))))))), []⟩), (some 4, fun p s => ⟨((eL tP p.c8) :: (.unk :: (.unk :: ((.sl 0 0 s.ns3 0) :: ((i p.is4) :: ((i p.is5) :: ((i s.is6) :: (ra 18 ((i s.is6) :: ((eL tP p.c8) :: ((i (↑(List.length p.c8) : Int)) :: ((b (decide (s.is6 < (↑(List.length p.c8) : Int)))) :: (ra 35 []))))))))))))), [⟨54, 4, s.eh0, true, false, 0⟩]⟩)], Zb8⟩
theorem Zb9 : Ra2.Ok := Lo.ok [] (by kernel_rfl) .nil rfl (.cons (fun a H => by kernel_rfl) (.cons (fun a H => by kernel_rfl) .nil)) fun p s => (.sel (Nat.beq s.ph 1) (.of @M1 (fun F _ _ _ _ _ => by unfold M1; (repeat' apply k9 (f := F)) <;> rfl) (by kernel_rfl)) (.of @M0 (fun F _ _ _ _ _ => by unfold M0; (repeat' apply k9 (f := F)) <;> rfl) (by kernel_rfl)))
structure H7 where
 is4 : Int
structure p0 where
 ph : Nat
 c8 : List Pln
 is5 : Int
 ns3 : Nat
 eh0 : List (List b7)
noncomputable def Tb2 (p : H7) (s : p0) : St := ⟨((eL tP s.c8) :: (.unk :: (.unk :: ((.v (.slice none 0 0)) :: ((i p.is4) :: ((i s.is5) :: (ra 58 []))))))), []⟩
noncomputable def Tb3 (p : H7) (s : p0) : St := ⟨((eL tP s.c8) :: (.unk :: (.unk :: ((.sl 0 0 s.ns3 0) :: ((i p.is4) :: ((i s.is5) :: (ra 58 []))))))), [⟨54, 4, s.eh0, true, false, 0⟩]⟩
noncomputable def ac0 (p : H7) (s : p0) : St := (sel (Nat.beq s.ph 1) (Tb3 p s) (Tb2 p s))
noncomputable def M2 {α : Type} (k : p0 → α) (e : Nat → α) (z : α) (p : H7) (s : p0) : α := let t1 := (lp (J7 (⟨(rt tP s.c8), p.is4, s.is5⟩ : H6)) (⟨0, (W (s.is5 + 1)), 0, []⟩ : o3)); (sl (decide (s.is5 < (↑(List.length s.c8) : Int))) (sl ((cnE tP s.c8) && true) (sl (Nat.beq t1.1 1) (k ⟨0, (rt tP s.c8), (W (s.is5 + 1)), 0, []⟩) (sl (Nat.beq t1.1 2) (k ⟨1, (rt tP s.c8), (W (s.is5 + 1)), t1.2.ns3, t1.2.eh0⟩) z)) z) (e 1))
noncomputable def M3 {α : Type} (k : p0 → α) (e : Nat → α) (z : α) (p : H7) (s : p0) : α := let t1 := (lp (J7 (⟨(rt tP s.c8), p.is4, s.is5⟩ : H6)) (⟨1, (W (s.is5 + 1)), s.ns3, s.eh0⟩ : o3)); (sl (decide (s.is5 < (↑(List.length s.c8) : Int))) (sl ((cnE tP s.c8) && true) (sl (Nat.beq t1.1 1) (k ⟨0, (rt tP s.c8), (W (s.is5 + 1)), 0, []⟩) (sl (Nat.beq t1.1 2) (k ⟨1, (rt tP s.c8), (W (s.is5 + 1)), t1.2.ns3, t1.2.eh0⟩) z)) z) (e 2))
noncomputable def F4 (p : H7) (s : p0) : Stp p0 := (sel (Nat.beq s.ph 1) (M3 .next .exit .fail p s) (M2 .next .exit .fail p s))
noncomputable def Ra3 : Lo H7 p0 := ⟨En Ea5, 0, Td5, [1, 1, 0, 1, 4, 4, 1, 0, 4, 1, 4, 4], [0, 3, 4, 5], (.s .p (.s (.b (.s .p (.b (.u Ra2.ls)))) .p)), [⟨((.s (.c 4 (nL tP))) :: ((.s (.o .unk)) :: ((.s (.o .unk)) :: ((.s (.o .nil)) :: ((.s (.o (.int .i64))) :: ((.s (.o (.int .i64))) :: (ru2 58 []))))))), [], fun a H => (⟨(toI (slT a 4))⟩, ⟨0, (rL tP (slT a 0)), (toI (slT a 5)), 0, []⟩)⟩, ⟨((.s (.c 4 (nL tP))) :: ((.s (.o .unk)) :: ((.s (.o .unk)) :: ((.s (.o (.sl 0 0 (some 0) none))) :: ((.s (.o (.int .i64))) :: ((.s (.o (.int .i64))) :: (ru2 58 []))))))), [⟨54, 4, true, none⟩], fun a H => (⟨(toI (slT a 4))⟩, ⟨1, (rL tP (slT a 0)), (toI (slT a 5)), (slN (slT a 3)), (elT H 0)⟩)⟩], F4, [(some 2, fun p s => ⟨((eL tP s.c8) :: (.unk :: (.unk :: ((.v (.slice none 0 0)) :: ((i p.is4) :: ((i s.is5) :: (ra 11 ((i s.is5) :: ((eL tP s.c8) :: ((i (↑(List.length s.c8) : Int)) :: ((b (decide (s.is5 < (↑(List.length s.c8) : Int)))) :: (ra 43 [])))))))))))), []⟩), (some 2, fun p s => ⟨((eL tP s.c8) :: (.unk :: (.unk :: ((.sl 0 0 s.ns3 0) :: ((i p.is4) :: ((i s.is5) :: (ra 11 ((i s.is5) :: ((eL tP s.c8) :: ((i (↑(List.length s.c8) : Int)) :: ((b (decide (s.is5 < (↑(List.length s.c8) : Int)))) :: (ra 43 [])))))))))))), [⟨54, 4, s.eh0, true, false, 0⟩]⟩)], ac0⟩
theorem ac4 : Ra3.Ok := Lo.ok [Ra2.pr] (by kernel_rfl) (.cons Zb9 .nil) rfl (.cons (fun a H => by kernel_rfl) (.cons (fun a H => by kernel_rfl) .nil)) fun p s => (.sel (Nat.beq s.ph 1) (.of @M3 (fun F _ _ _ _ _ => by unfold M3; (repeat' apply k9 (f := F)) <;> rfl) (by kernel_rfl)) (.of @M2 (fun F _ _ _ _ _ => by unfold M2; (repeat' apply k9 (f := F)) <;> rfl) (by kernel_rfl)))
structure N4 where
structure s7 where
 ph : Nat
 c8 : List Pln
 is4 : Int
 ns3 : Nat
 eh0 : List (List b7)
noncomputable def Tb4 (p : N4) (s : s7) : St := ⟨((eL tP s.c8) :: (.unk :: (.unk :: ((.v (.slice none 0 0)) :: ((i s.is4) :: (ra 59 [])))))), []⟩
noncomputable def Tb5 (p : N4) (s : s7) : St := ⟨((eL tP s.c8) :: (.unk :: (.unk :: ((.sl 0 0 s.ns3 0) :: ((i s.is4) :: (ra 59 [])))))), [⟨54, 4, s.eh0, true, false, 0⟩]⟩
noncomputable def ac5 (p : N4) (s : s7) : St := (sel (Nat.beq s.ph 1) (Tb5 p s) (Tb4 p s))
noncomputable def M4 {α : Type} (k : s7 → α) (e : Nat → α) (z : α) (p : N4) (s : s7) : α := let t1 := (lp (F4 (⟨s.is4⟩ : H7)) (⟨0, (rt tP s.c8), (W (s.is4 + 1)), 0, []⟩ : p0)); (sl (decide (s.is4 < (↑(List.length s.c8) : Int))) (sl ((cnE tP s.c8) && true) (sl (Nat.beq t1.1 1) (k ⟨0, t1.2.c8, (W (s.is4 + 1)), 0, []⟩) (sl (Nat.beq t1.1 2) (k ⟨1, t1.2.c8, (W (s.is4 + 1)), t1.2.ns3, t1.2.eh0⟩) z)) z) (e 1))
noncomputable def M5 {α : Type} (k : s7 → α) (e : Nat → α) (z : α) (p : N4) (s : s7) : α := let t1 := (lp (F4 (⟨s.is4⟩ : H7)) (⟨1, (rt tP s.c8), (W (s.is4 + 1)), s.ns3, s.eh0⟩ : p0)); (sl (decide (s.is4 < (↑(List.length s.c8) : Int))) (sl ((cnE tP s.c8) && true) (sl (Nat.beq t1.1 1) (k ⟨0, t1.2.c8, (W (s.is4 + 1)), 0, []⟩) (sl (Nat.beq t1.1 2) (k ⟨1, t1.2.c8, (W (s.is4 + 1)), t1.2.ns3, t1.2.eh0⟩) z)) z) (e 2))
noncomputable def J8 (p : N4) (s : s7) : Stp s7 := (sel (Nat.beq s.ph 1) (M5 .next .exit .fail p s) (M4 .next .exit .fail p s))
noncomputable def Ra4 : Lo N4 s7 := ⟨En Ea5, 0, Td5, [1, 1, 0, 1, 4, 4], [0, 3, 4], (.s .p (.s (.b (.s .p (.b (.u Ra3.ls)))) .p)), [⟨((.s (.c 4 (nL tP))) :: ((.s (.o .unk)) :: ((.s (.o .unk)) :: ((.s (.o .nil)) :: ((.s (.o (.int .i64))) :: (ru2 59 [])))))), [], fun a H => (⟨⟩, ⟨0, (rL tP (slT a 0)), (toI (slT a 4)), 0, []⟩)⟩, ⟨((.s (.c 4 (nL tP))) :: ((.s (.o .unk)) :: ((.s (.o .unk)) :: ((.s (.o (.sl 0 0 (some 0) none))) :: ((.s (.o (.int .i64))) :: (ru2 59 [])))))), [⟨54, 4, true, none⟩], fun a H => (⟨⟩, ⟨1, (rL tP (slT a 0)), (toI (slT a 4)), (slN (slT a 3)), (elT H 0)⟩)⟩], J8, [(some 0, fun p s => ⟨((eL tP s.c8) :: (.unk :: (.unk :: ((.v (.slice none 0 0)) :: ((i s.is4) :: (ra 4 ((i s.is4) :: ((eL tP s.c8) :: ((i (↑(List.length s.c8) : Int)) :: ((b (decide (s.is4 < (↑(List.length s.c8) : Int)))) :: (ra 51 []))))))))))), []⟩), (some 0, fun p s => ⟨((eL tP s.c8) :: (.unk :: (.unk :: ((.sl 0 0 s.ns3 0) :: ((i s.is4) :: (ra 4 ((i s.is4) :: ((eL tP s.c8) :: ((i (↑(List.length s.c8) : Int)) :: ((b (decide (s.is4 < (↑(List.length s.c8) : Int)))) :: (ra 51 []))))))))))), [⟨54, 4, s.eh0, true, false, 0⟩]⟩)], ac5⟩
theorem ac6 : Ra4.Ok := Lo.ok [Ra3.pr] (by kernel_rfl) (.cons ac4 .nil) rfl (.cons (fun a H => by kernel_rfl) (.cons (fun a H => by kernel_rfl) .nil)) fun p s => (.sel (Nat.beq s.ph 1) (.of @M5 (fun F _ _ _ _ _ => by unfold M5; (repeat' apply k9 (f := F)) <;> rfl) (by kernel_rfl)) (.of @M4 (fun F _ _ _ _ _ => by unfold M4; (repeat' apply k9 (f := F)) <;> rfl) (by kernel_rfl)))
noncomputable def wa7 (x : List Pln) : Option (b7 × List b8) := let t1 := (lp (J8 (⟨⟩ : N4)) (⟨0, (rt tP x), 0, 0, []⟩ : s7)); (sl ((cnE tP x) && true) (sl (Nat.beq t1.1 1) (some ((.v (.slice none 0 0)), [])) (sl (Nat.beq t1.1 2) (some ((.sl 0 0 t1.2.ns3 0), [⟨54, 4, t1.2.eh0, true, false, 0⟩])) none)) none)
noncomputable def wa8 (x : List Pln) : List Pt := G6 (one (r1L tX)) (wa7 x)
noncomputable def wa9 (x : List Pln) : Bool := okO (one (r1L tX)) (wa7 x)
noncomputable def ib3 : Sum := ba5 (T5 tP) (fun x => .guard (wa9 x) (.ret ((one (r1L tX)).enc (wa8 x), [])))
theorem Ab8 : f6 prog G 90 ib3 := ua0 (bd b90 ic6) (one (r1L tX)) (o := wa7) fun x => wa0 (.s .p (.s .p (.s (.s .p (.b (.u Ra4.ls))) .p))) [Ra4.pr] (by kernel_rfl) (.cons ac6 .nil) (by kernel_rfl)
noncomputable def fb9 : List (Nat × Sum) := []
theorem Mb5 : i7 prog G fb9 := trivial
@[reducible] noncomputable def ua1 : Sum := i6 (En fb9) ae4
theorem Ea6 : f6 prog G 166 ua1 := bd ze0 Mb5
noncomputable def ic7 : List (Nat × Sum) := []
theorem ac7 : i7 prog G ic7 := trivial
noncomputable def qa5 (x : Int) : Option (b7 × List b8) := (sl (decide (x < 0)) (some ((i (W (0 - x))), [])) (some ((i x), [])))
noncomputable def ha0 (x : Int) : Int := G6 (one r1I) (qa5 x)
noncomputable def ha3 (x : Int) : Bool := okO (one r1I) (qa5 x)
noncomputable def Ab9 : Sum := ba5 cI (fun x => .guard (ha3 x) (.ret ((one r1I).enc (ha0 x), [])))
theorem ic8 : f6 prog G 215 Ab9 := ua0 (bd Be1 ac7) (one r1I) (o := qa5) fun x => p7 (by kernel_rfl)
noncomputable def fc5 : List (Nat × Sum) := [(215, Ab9), (166, ua1)]
theorem Qc8 : i7 prog G fc5 := ⟨ic8, Ea6, trivial⟩
structure da1 where
 is6 : Int
 g7 : Int
 c7 : Int
 g8 : Int
 K6 : Int
 K7 : Int
 K8 : Int
structure M6 where
 is5 : Int
 is7 : Int
noncomputable def Bc5 (p : da1) (s : M6) : St := ⟨(.unk :: ((.ptr 0 0 0 0) :: ((.ptr 1 0 0 0) :: (.unk :: ((.ptr 2 0 0 0) :: ((i s.is5) :: ((i p.is6) :: ((i s.is7) :: (ra 38 []))))))))), [⟨0, 3, [[(i p.g7), (i p.c7), (i p.g8)]], true, false, 0⟩, ⟨0, 3, [[(i 0), (i 0), (i 0)]], true, false, 0⟩, ⟨0, 3, [[(i p.K6), (i p.K7), (i p.K8)]], true, false, 0⟩]⟩
noncomputable def qa6 {α : Type} (k : M6 → α) (e : Nat → α) (z : α) (p : da1) (s : M6) : α := (sl (decide (s.is7 > 0)) (sl (s.is7 == 0) z (k ⟨s.is7, (Int.tmod s.is5 s.is7)⟩)) (e 1))
noncomputable def Y7 (p : da1) (s : M6) : Stp M6 := qa6 .next .exit .fail p s
noncomputable def qb6 : Lo da1 M6 := ⟨En fc5, 0, ae5, [1, 1, 1, 0, 1, 4, 4, 1, 0, 4, 1, 1, 4, 4], [1, 2, 4, 5, 6, 7], .p, [⟨((.s (.o .unk)) :: ((.s (.o (.ptr 0 0 0 0))) :: ((.s (.o (.ptr 1 0 0 0))) :: ((.s (.o .unk)) :: ((.s (.o (.ptr 2 0 0 0))) :: ((.s (.o (.int .i64))) :: ((.s (.o (.int .i64))) :: ((.s (.o (.int .i64))) :: (ru2 38 []))))))))), [⟨0, 3, true, (some [[(.o (.int .i64)), (.o (.int .i64)), (.o (.int .i64))]])⟩, ⟨0, 3, true, (some [[(.o (.lit .i64 0)), (.o (.lit .i64 0)), (.o (.lit .i64 0))]])⟩, ⟨0, 3, true, (some [[(.o (.int .i64)), (.o (.int .i64)), (.o (.int .i64))]])⟩], fun a H => (⟨(toI (slT a 6)), (toI (slT (rwT (elT H 0) 0) 0)), (toI (slT (rwT (elT H 0) 0) 1)), (toI (slT (rwT (elT H 0) 0) 2)), (toI (slT (rwT (elT H 2) 0) 0)), (toI (slT (rwT (elT H 2) 0) 1)), (toI (slT (rwT (elT H 2) 0) 2))⟩, ⟨(toI (slT a 5)), (toI (slT a 7))⟩)⟩], Y7, [(some 2, fun p s => ⟨(.unk :: ((.ptr 0 0 0 0) :: ((.ptr 1 0 0 0) :: (.unk :: ((.ptr 2 0 0 0) :: ((i s.is5) :: ((i p.is6) :: ((i s.is7) :: (ra 15 ((i s.is7) :: ((b (decide (s.is7 > 0))) :: (ra 21 [])))))))))))), [⟨0, 3, [[(i p.g7), (i p.c7), (i p.g8)]], true, false, 0⟩, ⟨0, 3, [[(i 0), (i 0), (i 0)]], true, false, 0⟩, ⟨0, 3, [[(i p.K6), (i p.K7), (i p.K8)]], true, false, 0⟩]⟩)], Bc5⟩
theorem Bc6 : qb6.Ok := Lo.ok [] (by kernel_rfl) .nil rfl (.cons (fun a H => by kernel_rfl) .nil) fun p s => (.of @qa6 (fun F _ _ _ _ _ => by unfold qa6; (repeat' apply k9 (f := F)) <;> rfl) (by kernel_rfl))
noncomputable def Za0 (x : V3) : Option (b7 × List b8) := let t1 := (ha0 x.x); let t2 := (lp (Y7 (⟨0, x.x, x.y, x.z, x.x, x.y, x.z⟩ : da1)) (⟨0, t1⟩ : M6)); let t3 := (ha0 x.y); let t4 := (lp (Y7 (⟨1, x.x, x.y, x.z, x.x, x.y, x.z⟩ : da1)) (⟨t2.2.is5, t3⟩ : M6)); let t5 := (ha0 x.z); let t6 := (lp (Y7 (⟨2, x.x, x.y, x.z, x.x, x.y, x.z⟩ : da1)) (⟨t4.2.is5, t5⟩ : M6)); (sl (x.x == (-9223372036854775808)) (some ((.tup [(.agg [(i 0), (i 0), (i 0)]), (i 0)]), [])) (sl (ha3 x.x) (sl (Nat.beq t2.1 1) (sl (x.y == (-9223372036854775808)) (some ((.tup [(.agg [(i 0), (i 0), (i 0)]), (i 0)]), [])) (sl (ha3 x.y) (sl (Nat.beq t4.1 1) (sl (x.z == (-9223372036854775808)) (some ((.tup [(.agg [(i 0), (i 0), (i 0)]), (i 0)]), [])) (sl (ha3 x.z) (sl (Nat.beq t6.1 1) (sl (t6.2.is5 == 0) (some ((.tup [(.agg [(i 0), (i 0), (i 0)]), (i 0)]), [])) (sl (t6.2.is5 == 0) none (sl (t6.2.is5 == 0) none (sl (t6.2.is5 == 0) none (some ((.tup [(.agg [(i (W (Int.tdiv x.x t6.2.is5))), (i (W (Int.tdiv x.y t6.2.is5))), (i (W (Int.tdiv x.z t6.2.is5)))]), (i t6.2.is5)]), [])))))) none) none)) none) none)) none) none))
noncomputable def Ba1 (x : V3) : V3 × Int := G6 (two r1V r1I) (Za0 x)
noncomputable def Za1 (x : V3) : Bool := okO (two r1V r1I) (Za0 x)
noncomputable def Mb6 : Sum := ba5 (P7 tV) (fun x => .guard (Za1 x) (.ret ((two r1V r1I).enc (Ba1 x), [])))
theorem fc6 : f6 prog G 167 Mb6 := ua0 (bd ze1 Qc8) (two r1V r1I) (o := Za0) fun x => wa0 (.s .p (.s .p (.s .p (.s (.s .p (.b (.l (.s .p (.s (.b (.s .p (.s .p (.b (.u qb6.ls))))) .p))))) .p)))) [qb6.pr] (by kernel_rfl) (.cons Bc6 .nil) (by kernel_rfl)
noncomputable def Qc9 : List (Nat × Sum) := [(167, Mb6), (166, ua1)]
theorem Bc7 : i7 prog G Qc9 := ⟨fc6, Ea6, trivial⟩
noncomputable def Na2 (x : Pln) : Option (b7 × List b8) := let t1 := (Ba1 x.n); (sl (decide (x.n.x < (-4608))) (some ((b false), [])) (sl (decide (x.n.x > 4608)) (some ((b false), [])) (sl (decide (x.n.y < (-4608))) (some ((b false), [])) (sl (decide (x.n.y > 4608)) (some ((b false), [])) (sl (decide (x.n.z < (-4608))) (some ((b false), [])) (sl (decide (x.n.z > 4608)) (some ((b false), [])) (sl (Za1 x.n) (sl (t1.2 == 1) (sl (decide (x.b ≥ (-2097152))) (some ((b (decide (x.b ≤ 2097152))), [])) (some ((b false), []))) (some ((b false), []))) none)))))))
noncomputable def Na3 (x : Pln) : Bool := G6 (one r1B) (Na2 x)
noncomputable def Na4 (x : Pln) : Bool := okO (one r1B) (Na2 x)
noncomputable def Bb0 : Sum := ba5 (P7 tP) (fun x => .guard (Na4 x) (.ret ((one r1B).enc (Na3 x), [])))
theorem Tb6 : f6 prog G 86 Bb0 := ua0 (bd b86 Bc7) (one r1B) (o := Na2) fun x => p7 (by kernel_rfl)
noncomputable def Tb7 : List (Nat × Sum) := [(86, Bb0)]
theorem Bc8 : i7 prog G Tb7 := ⟨Tb6, trivial⟩
structure xa0 where
 c8 : List Pln
structure Q8 where
 is3 : Int
noncomputable def tc0 (p : xa0) (s : Q8) : St := ⟨((eL tP p.c8) :: (.unk :: (.unk :: ((i s.is3) :: (ra 15 []))))), []⟩
noncomputable def la2 {α : Type} (k : Q8 → α) (e : Nat → α) (z : α) (p : xa0) (s : Q8) : α := let t1 := (Na3 (gL tP p.c8 s.is3.toNat)); (sl (decide (s.is3 < (↑(List.length p.c8) : Int))) (sl (inB s.is3 (List.length p.c8)) (sl (Na4 (gL tP p.c8 s.is3.toNat)) (sl (!t1) (e 1) (k ⟨(W (s.is3 + 1))⟩)) z) z) (e 2))
noncomputable def qa7 (p : xa0) (s : Q8) : Stp Q8 := la2 .next .exit .fail p s
noncomputable def ib4 : Lo xa0 Q8 := ⟨En Tb7, 0, me5, [1, 1, 0, 1, 4, 4], [0, 3], .p, [⟨((.s (.c 4 (nL tP))) :: ((.s (.o .unk)) :: ((.s (.o .unk)) :: ((.s (.o (.int .i64))) :: (ru2 15 []))))), [], fun a H => (⟨(rL tP (slT a 0))⟩, ⟨(toI (slT a 3))⟩)⟩], qa7, [(none, fun p s => ⟨[(i 12)], []⟩), (some 0, fun p s => ⟨((eL tP p.c8) :: (.unk :: (.unk :: ((i s.is3) :: (ra 3 ((i s.is3) :: ((eL tP p.c8) :: ((i (↑(List.length p.c8) : Int)) :: ((b (decide (s.is3 < (↑(List.length p.c8) : Int)))) :: (ra 8 [])))))))))), []⟩)], tc0⟩
theorem tc1 : ib4.Ok := Lo.ok [] (by kernel_rfl) .nil rfl (.cons (fun a H => by kernel_rfl) .nil) fun p s => (.of @la2 (fun F _ _ _ _ _ => by unfold la2; (repeat' apply k9 (f := F)) <;> rfl) (by kernel_rfl))
noncomputable def Na5 (x : List Pln) : Option (b7 × List b8) := let t1 := (lp (qa7 (⟨(rt tP x)⟩ : xa0)) (⟨0⟩ : Q8)); (sl (decide ((↑(List.length x) : Int) > 48)) (some ((i 2), [])) (sl ((cnE tP x) && true) (sl (Nat.beq t1.1 1) (some ((i 12), [])) (sl (Nat.beq t1.1 2) (some ((i 0), [])) none)) none))
noncomputable def Ca2 (x : List Pln) : Int := G6 (one r1I) (Na5 x)
noncomputable def Ca3 (x : List Pln) : Bool := okO (one r1I) (Na5 x)
noncomputable def gb0 : Sum := ba5 (T5 tP) (fun x => .guard (Ca3 x) (.ret ((one r1I).enc (Ca2 x), [])))
theorem qb7 : f6 prog G 16 gb0 := ua0 (bd b16 Bc8) (one r1I) (o := Na5) fun x => wa0 (.s .p (.s .p (.s (.s .p (.b (.u ib4.ls))) .p))) [ib4.pr] (by kernel_rfl) (.cons tc1 .nil) (by kernel_rfl)
noncomputable def pd3 : List (Nat × Sum) := []
theorem dd4 : i7 prog G pd3 := trivial
noncomputable def Fb8 (x : V3) (y : V3) : Option (b7 × List b8) := (some ((.sl 0 0 6 0), [⟨50, 4, [[(i 1), (i 0), (i 0), (i y.x)], [(i (-1)), (i 0), (i 0), (i (W (0 - x.x)))], [(i 0), (i 1), (i 0), (i y.y)], [(i 0), (i (-1)), (i 0), (i (W (0 - x.y)))], [(i 0), (i 0), (i 1), (i y.z)], [(i 0), (i 0), (i (-1)), (i (W (0 - x.z)))]], true, false, 0⟩]))
noncomputable def mb5 (x : V3) (y : V3) : List Pln := G6 (one (r1L tP)) (Fb8 x y)
noncomputable def Wa7 (x : V3) (y : V3) : Bool := okO (one (r1L tP)) (Fb8 x y)
noncomputable def ac8 : Sum := ga8 (P7 tV) (P7 tV) (fun x y => .guard (Wa7 x y) (.ret ((one (r1L tP)).enc (mb5 x y), [])))
theorem tc2 : f6 prog G 111 ac8 := cb4 (bd qe4 dd4) (one (r1L tP)) (o := Fb8) fun x y => p7 (by kernel_rfl)
noncomputable def pd4 : List (Nat × Sum) := [(111, ac8)]
theorem dd5 : i7 prog G pd4 := ⟨tc2, trivial⟩
noncomputable def mb6 (x : List Pln) : Option (b7 × List b8) := let t1 := (mb5 (⟨(-24), (-24), (-24)⟩ : V3) (⟨24, 24, 24⟩ : V3)); (sl (Nat.beq (len (n3 (fun k => (tP).row (gL tP x k)) (List.range (List.length x)))) 0) (sl (Wa7 (⟨(-24), (-24), (-24)⟩ : V3) (⟨24, 24, 24⟩ : V3)) (sl (Nat.beq (len (n3 (fun k => (tP).row (gL tP t1 k)) (List.range (List.length t1)))) 0) (some ((.sl 0 0 0 0), [⟨50, 4, [], true, false, 0⟩])) (sl (Nat.beq 0 0 && Nat.ble ((0 + (len (n3 (fun k => (tP).row (gL tP t1 k)) (List.range (List.length t1))))) * 32) room) (some ((.sl 0 0 (0 + (len (n3 (fun k => (tP).row (gL tP t1 k)) (List.range (List.length t1))))) 0), [⟨50, 4, (app [] (n3 (fun k => (tP).row (gL tP t1 k)) (List.range (List.length t1)))), true, false, 0⟩])) none)) none) (sl (Nat.beq 0 0 && Nat.ble ((0 + (len (n3 (fun k => (tP).row (gL tP x k)) (List.range (List.length x))))) * 32) room) (sl (Wa7 (⟨(-24), (-24), (-24)⟩ : V3) (⟨24, 24, 24⟩ : V3)) (sl (Nat.beq (len (n3 (fun k => (tP).row (gL tP t1 k)) (List.range (List.length t1)))) 0) (some ((.sl 0 0 (0 + (len (n3 (fun k => (tP).row (gL tP x k)) (List.range (List.length x))))) 0), [⟨50, 4, (app [] (n3 (fun k => (tP).row (gL tP x k)) (List.range (List.length x)))), true, false, 0⟩])) (sl (Nat.beq (0 + (len (n3 (fun k => (tP).row (gL tP x k)) (List.range (List.length x))))) (len (app [] (n3 (fun k => (tP).row (gL tP x k)) (List.range (List.length x))))) && Nat.ble (((0 + (len (n3 (fun k => (tP).row (gL tP x k)) (List.range (List.length x))))) + (len (n3 (fun k => (tP).row (gL tP t1 k)) (List.range (List.length t1))))) * 32) room) (some ((.sl 0 0 ((0 + (len (n3 (fun k => (tP).row (gL tP x k)) (List.range (List.length x))))) + (len (n3 (fun k => (tP).row (gL tP t1 k)) (List.range (List.length t1))))) 0), [⟨50, 4, (app (app [] (n3 (fun k => (tP).row (gL tP x k)) (List.range (List.length x)))) (n3 (fun k => (tP).row (gL tP t1 k)) (List.range (List.length t1)))), true, false, 0⟩])) none)) none) none))
noncomputable def mb7 (x : List Pln) : List Pln := G6 (one (r1L tP)) (mb6 x)
noncomputable def mb8 (x : List Pln) : Bool := okO (one (r1L tP)) (mb6 x)
noncomputable def ac9 : Sum := ba5 (T5 tP) (fun x => .guard (mb8 x) (.ret ((one (r1L tP)).enc (mb7 x), [])))
theorem tc3 : f6 prog G 91 ac9 := ua0 (bd b91 dd5) (one (r1L tP)) (o := mb6) fun x => p7 (by kernel_rfl)
noncomputable def Bc9 : List (Nat × Sum) := [(16, gb0), (91, ac9), (90, ib3)]
theorem tc4 : i7 prog G Bc9 := ⟨qb7, tc3, Ab8, trivial⟩
noncomputable def Ea7 (x : List Pln) : Option (b7 × List b8) := let t1 := (Ca2 (rt tP x)); let t2 := (mb7 (rt tP x)); let t3 := (wa8 (rt tP t2)); (sl (okE tP x) (sl (Ca3 (rt tP x)) (sl (t1 != 0) (some ((.v (.slice none 0 0)), [])) (sl (okE tP x) (sl (mb8 (rt tP x)) (sl (okE tP t2) (sl (wa9 (rt tP t2)) (some ((eL tX t3), [])) none) none) none) none)) none) none)
noncomputable def Ea8 (x : List Pln) : List Pt := G6 (one (r1L tX)) (Ea7 x)
noncomputable def Ea9 (x : List Pln) : Bool := okO (one (r1L tX)) (Ea7 x)
noncomputable def qb8 : Sum := ba5 (T5 tP) (fun x => .guard (Ea9 x) (.ret ((one (r1L tX)).enc (Ea8 x), [])))
theorem Jb2 : f6 prog G 19 qb8 := ua0 (bd b19 tc4) (one (r1L tX)) (o := Ea7) fun x => p7 (by kernel_rfl)
noncomputable def Bb1 : List (Nat × Sum) := [(90, ib3), (37, Mb2)]
theorem Rc0 : i7 prog G Bb1 := ⟨Ab8, fc3, trivial⟩
structure Fa0 where
 c8 : List Pln
 gb8 : List Pt
 is4 : Int
structure da2 where
 bs5 : Bool
 is6 : Int
noncomputable def Cc0 (p : Fa0) (s : da2) : St := ⟨((eL tP p.c8) :: (.unk :: (.unk :: ((eL tX p.gb8) :: ((i p.is4) :: ((b s.bs5) :: ((i s.is6) :: (ra 29 [])))))))), []⟩
noncomputable def qa8 {α : Type} (k : da2 → α) (e : Nat → α) (z : α) (p : Fa0) (s : da2) : α := let t1 := (Ya4 (gL tP p.c8 p.is4.toNat) (gL tX p.gb8 s.is6.toNat)); (sl (decide (s.is6 < (↑(List.length p.gb8) : Int))) (sl s.bs5 (k ⟨true, (W (s.is6 + 1))⟩) (sl (inB p.is4 (List.length p.c8)) (sl (inB s.is6 (List.length p.gb8)) (k ⟨(decide (t1 > 0)), (W (s.is6 + 1))⟩) z) z)) (e 1))
noncomputable def na0 (p : Fa0) (s : da2) : Stp da2 := qa8 .next .exit .fail p s
noncomputable def qb9 : Lo Fa0 da2 := ⟨En Bb1, 0, ge3, [1, 1, 0, 1, 4, 4, 1, 0, 4, 1, 0, 1, 4, 4], [0, 3, 4, 5, 6], .p, [⟨((.s (.c 4 (nL tP))) :: ((.s (.o .unk)) :: ((.s (.o .unk)) :: ((.s (.c 4 (nL tX))) :: ((.s (.o (.int .i64))) :: ((.s (.o .bool)) :: ((.s (.o (.int .i64))) :: (ru2 29 [])))))))), [], fun a H => (⟨(rL tP (slT a 0)), (rL tX (slT a 3)), (toI (slT a 4))⟩, ⟨(toB (slT a 5)), (toI (slT a 6))⟩)⟩], na0, [(some 2, fun p s => ⟨((eL tP p.c8) :: (.unk :: (.unk :: ((eL tX p.gb8) :: ((i p.is4) :: ((b s.bs5) :: ((i s.is6) :: (ra 8 ((i s.is6) :: ((eL tX p.gb8) :: ((i (↑(List.length p.gb8) : Int)) :: ((b (decide (s.is6 < (↑(List.length p.gb8) : Int)))) :: (ra 17 []))))))))))))), []⟩)], Cc0⟩
theorem Cc1 : qb9.Ok := Lo.ok [] (by kernel_rfl) .nil rfl (.cons (fun a H => by kernel_rfl) .nil) fun p s => (.of @qa8 (fun F _ _ _ _ _ => by unfold qa8; (repeat' apply k9 (f := F)) <;> rfl) (by kernel_rfl))
structure Fa1 where
structure W6 where
 c8 : List Pln
 gb8 : List Pt
 is4 : Int
noncomputable def Cc2 (p : Fa1) (s : W6) : St := ⟨((eL tP s.c8) :: (.unk :: (.unk :: ((eL tX s.gb8) :: ((i s.is4) :: (ra 31 [])))))), []⟩
noncomputable def qa9 {α : Type} (k : W6 → α) (e : Nat → α) (z : α) (p : Fa1) (s : W6) : α := let t1 := (lp (na0 (⟨(rt tP s.c8), (rt tX s.gb8), s.is4⟩ : Fa0)) (⟨false, 0⟩ : da2)); (sl (decide (s.is4 < (↑(List.length s.c8) : Int))) (sl ((cnE tP s.c8) && ((cnE tX s.gb8) && true)) (sl (Nat.beq t1.1 1) (sl (!t1.2.bs5) (e 1) (k ⟨(rt tP s.c8), (rt tX s.gb8), (W (s.is4 + 1))⟩)) z) z) (e 2))
noncomputable def xa1 (p : Fa1) (s : W6) : Stp W6 := qa9 .next .exit .fail p s
noncomputable def rb0 : Lo Fa1 W6 := ⟨En Bb1, 0, ge3, [1, 1, 0, 1, 4, 4], [0, 3, 4], (.s .p (.s (.b (.s .p (.s (.s .p (.b (.u qb9.ls))) .p))) .p)), [⟨((.s (.c 4 (nL tP))) :: ((.s (.o .unk)) :: ((.s (.o .unk)) :: ((.s (.c 4 (nL tX))) :: ((.s (.o (.int .i64))) :: (ru2 31 [])))))), [], fun a H => (⟨⟩, ⟨(rL tP (slT a 0)), (rL tX (slT a 3)), (toI (slT a 4))⟩)⟩], xa1, [(none, fun p s => ⟨[(b false)], []⟩), (some 0, fun p s => ⟨((eL tP s.c8) :: (.unk :: (.unk :: ((eL tX s.gb8) :: ((i s.is4) :: (ra 4 ((i s.is4) :: ((eL tP s.c8) :: ((i (↑(List.length s.c8) : Int)) :: ((b (decide (s.is4 < (↑(List.length s.c8) : Int)))) :: (ra 23 []))))))))))), []⟩)], Cc2⟩
theorem Cc3 : rb0.Ok := Lo.ok [qb9.pr] (by kernel_rfl) (.cons Cc1 .nil) rfl (.cons (fun a H => by kernel_rfl) .nil) fun p s => (.of @qa9 (fun F _ _ _ _ _ => by unfold qa9; (repeat' apply k9 (f := F)) <;> rfl) (by kernel_rfl))
noncomputable def Za2 (x : List Pln) : Option (b7 × List b8) := let t1 := (wa8 (rt tP x)); let t2 := (lp (xa1 (⟨⟩ : Fa1)) (⟨(rt tP x), (rt tX t1), 0⟩ : W6)); (sl (okE tP x) (sl (wa9 (rt tP x)) (sl ((cnE tP x) && ((cnE tX t1) && true)) (sl (Nat.beq t2.1 1) (some ((b false), [])) (sl (Nat.beq t2.1 2) (some ((b true), [])) none)) none) none) none)
noncomputable def rb1 (x : List Pln) : Bool := G6 (one r1B) (Za2 x)
noncomputable def rb2 (x : List Pln) : Bool := okO (one r1B) (Za2 x)
noncomputable def tc5 : Sum := ba5 (T5 tP) (fun x => .guard (rb2 x) (.ret ((one r1B).enc (rb1 x), [])))
theorem dd6 : f6 prog G 93 tc5 := ua0 (bd b93 Rc0) (one r1B) (o := Za2) fun x => wa0 (.s .p (.s .p (.s (.s .p (.b (.u rb0.ls))) .p))) [rb0.pr] (by kernel_rfl) (.cons Cc3 .nil) (by kernel_rfl)
noncomputable def dd7 : List (Nat × Sum) := [(16, gb0), (91, ac9), (93, tc5)]
theorem Rc1 : i7 prog G dd7 := ⟨qb7, tc3, dd6, trivial⟩
noncomputable def Za3 (x : List Pln) : Option (b7 × List b8) := let t1 := (Ca2 (rt tP x)); let t2 := (mb7 (rt tP x)); let t3 := (rb1 (rt tP t2)); (sl (okE tP x) (sl (Ca3 (rt tP x)) (sl (t1 == 0) (sl (okE tP x) (sl (mb8 (rt tP x)) (sl (okE tP t2) (sl (rb2 (rt tP t2)) (some ((b t3), [])) none) none) none) none) (some ((b false), []))) none) none)
noncomputable def Ba2 (x : List Pln) : Bool := G6 (one r1B) (Za3 x)
noncomputable def ra0 (x : List Pln) : Bool := okO (one r1B) (Za3 x)
noncomputable def rb3 : Sum := ba5 (T5 tP) (fun x => .guard (ra0 x) (.ret ((one r1B).enc (Ba2 x), [])))
theorem Bb2 : f6 prog G 21 rb3 := ua0 (bd b21 Rc1) (one r1B) (o := Za3) fun x => p7 (by kernel_rfl)
noncomputable def pd5 : List (Nat × Sum) := []
theorem dd8 : i7 prog G pd5 := trivial
noncomputable def mb9 (x : Int) (y : Int) : Option (b7 × List b8) := (sl (decide (y < 1)) (some ((i 0), [])) (sl (y == 0) none (sl (y == 0) none (some ((i (Int.tmod (W ((Int.tmod x y) + y)) y)), [])))))
noncomputable def ha4 (x : Int) (y : Int) : Int := G6 (one r1I) (mb9 x y)
noncomputable def ca3 (x : Int) (y : Int) : Bool := okO (one r1I) (mb9 x y)
noncomputable def Wa8 : Sum := ga8 cI cI (fun x y => .guard (ca3 x y) (.ret ((one r1I).enc (ha4 x y), [])))
theorem Za4 : f6 prog G 47 Wa8 := cb4 (bd b47 dd8) (one r1I) (o := mb9) fun x y => p7 (by kernel_rfl)
noncomputable def Rc2 : List (Nat × Sum) := [(47, Wa8)]
theorem Cc4 : i7 prog G Rc2 := ⟨Za4, trivial⟩
noncomputable def Na6 (x : Int) (y : Int) : Option (b7 × List b8) := let t1 := (ha4 x y); (sl (ca3 x y) (sl (y == 0) none (some ((i (W (Int.tdiv (W (x - t1)) y))), []))) none)
noncomputable def da3 (x : Int) (y : Int) : Int := G6 (one r1I) (Na6 x y)
noncomputable def da4 (x : Int) (y : Int) : Bool := okO (one r1I) (Na6 x y)
noncomputable def fc7 : Sum := ga8 cI cI (fun x y => .guard (da4 x y) (.ret ((one r1I).enc (da3 x y), [])))
theorem Rc3 : f6 prog G 96 fc7 := cb4 (bd b96 Cc4) (one r1I) (o := Na6) fun x y => p7 (by kernel_rfl)
noncomputable def Tb8 : List (Nat × Sum) := [(21, rb3), (19, qb8), (96, fc7)]
theorem Cc5 : i7 prog G Tb8 := ⟨Bb2, Jb2, Rc3, trivial⟩
structure xa2 where
 J1 : List Pt
structure Y8 where
 is8 : Int
 K6 : Int
 K7 : Int
 K8 : Int
 Ia6 : Int
 Ia7 : Int
 Ia8 : Int
noncomputable def tc6 (p : xa2) (s : Y8) : St := ⟨(.unk :: (.unk :: ((.ptr 0 0 0 0) :: ((.ptr 1 0 0 0) :: (.unk :: ((eL tX p.J1) :: ((.ptr 2 0 0 0) :: ((.ptr 3 0 0 0) :: ((i s.is8) :: (ra 109 [])))))))))), [⟨0, 3, [[(i 0), (i 0), (i 0)]], true, false, 0⟩, ⟨0, 3, [[(i 0), (i 0), (i 0)]], true, false, 0⟩, ⟨0, 3, [[(i s.K6), (i s.K7), (i s.K8)]], true, false, 0⟩, ⟨0, 3, [[(i s.Ia6), (i s.Ia7), (i s.Ia8)]], true, false, 0⟩]⟩
noncomputable def la3 {α : Type} (k : Y8 → α) (e : Nat → α) (z : α) (p : xa2) (s : Y8) : α := let t1 := (da3 (gL tX p.J1 s.is8.toNat).px (gL tX p.J1 s.is8.toNat).pw); let t2 := (da3 (gL tX p.J1 s.is8.toNat).py (gL tX p.J1 s.is8.toNat).pw); let t3 := (da3 (gL tX p.J1 s.is8.toNat).pz (gL tX p.J1 s.is8.toNat).pw); let t4 := (da3 (W (0 - (gL tX p.J1 s.is8.toNat).px)) (gL tX p.J1 s.is8.toNat).pw); let t5 := (da3 (W (0 - (gL tX p.J1 s.is8.toNat).py)) (gL tX p.J1 s.is8.toNat).pw); let t6 := (da3 (W (0 - (gL tX p.J1 s.is8.toNat).pz)) (gL tX p.J1 s.is8.toNat).pw); (sl (decide (s.is8 < (↑(List.length p.J1) : Int))) (sl (inB s.is8 (List.length p.J1)) (sl (inB s.is8 (List.length p.J1)) (sl (da4 (gL tX p.J1 s.is8.toNat).px (gL tX p.J1 s.is8.toNat).pw) (sl (inB s.is8 (List.length p.J1)) (sl (inB s.is8 (List.length p.J1)) (sl (da4 (gL tX p.J1 s.is8.toNat).py (gL tX p.J1 s.is8.toNat).pw) (sl (inB s.is8 (List.length p.J1)) (sl (inB s.is8 (List.length p.J1)) (sl (da4 (gL tX p.J1 s.is8.toNat).pz (gL tX p.J1 s.is8.toNat).pw) (sl (inB s.is8 (List.length p.J1)) (sl (inB s.is8 (List.length p.J1)) (sl (da4 (W (0 - (gL tX p.J1 s.is8.toNat).px)) (gL tX p.J1 s.is8.toNat).pw) (sl (inB s.is8 (List.length p.J1)) (sl (inB s.is8 (List.length p.J1)) (sl (da4 (W (0 - (gL tX p.J1 s.is8.toNat).py)) (gL tX p.J1 s.is8.toNat).pw) (sl (inB s.is8 (List.length p.J1)) (sl (inB s.is8 (List.length p.J1)) (sl (da4 (W (0 - (gL tX p.J1 s.is8.toNat).pz)) (gL tX p.J1 s.is8.toNat).pw) (k ⟨(W (s.is8 + 1)), (if t1 < s.K6 then t1 else s.K6), (if t2 < s.K7 then t2 else s.K7), (if t3 < s.K8 then t3 else s.K8), (if (W (0 - t4)) > s.Ia6 then (W (0 - t4)) else s.Ia6), (if (W (0 - t5)) > s.Ia7 then (W (0 - t5)) else s.Ia7), (if (W (0 - t6)) > s.Ia8 then (W (0 - t6)) else s.Ia8)⟩) z) z) z) z) z) z) z) z) z) z) z) z) z) z) z) z) z) z) (e 1))
noncomputable def ha5 (p : xa2) (s : Y8) : Stp Y8 := la3 .next .exit .fail p s
noncomputable def ib5 : Lo xa2 Y8 := ⟨En Tb8, 0, me8, [1, 1, 1, 1, 1, 0, 1, 4, 4], [2, 3, 5, 6, 7, 8], .p, [⟨((.s (.o .unk)) :: ((.s (.o .unk)) :: ((.s (.o (.ptr 0 0 0 0))) :: ((.s (.o (.ptr 1 0 0 0))) :: ((.s (.o .unk)) :: ((.s (.c 4 (nL tX))) :: ((.s (.o (.ptr 2 0 0 0))) :: ((.s (.o (.ptr 3 0 0 0))) :: ((.s (.o (.int .i64))) :: (ru2 109 [])))))))))), [⟨0, 3, true, (some [[(.o (.lit .i64 0)), (.o (.lit .i64 0)), (.o (.lit .i64 0))]])⟩, ⟨0, 3, true, (some [[(.o (.lit .i64 0)), (.o (.lit .i64 0)), (.o (.lit .i64 0))]])⟩, ⟨0, 3, true, (some [[(.o (.int .i64)), (.o (.int .i64)), (.o (.int .i64))]])⟩, ⟨0, 3, true, (some [[(.o (.int .i64)), (.o (.int .i64)), (.o (.int .i64))]])⟩], fun a H => (⟨(rL tX (slT a 5))⟩, ⟨(toI (slT a 8)), (toI (slT (rwT (elT H 2) 0) 0)), (toI (slT (rwT (elT H 2) 0) 1)), (toI (slT (rwT (elT H 2) 0) 2)), (toI (slT (rwT (elT H 3) 0) 0)), (toI (slT (rwT (elT H 3) 0) 1)), (toI (slT (rwT (elT H 3) 0) 2))⟩)⟩], ha5, [(some 0, fun p s => ⟨(.unk :: (.unk :: ((.ptr 0 0 0 0) :: ((.ptr 1 0 0 0) :: (.unk :: ((eL tX p.J1) :: ((.ptr 2 0 0 0) :: ((.ptr 3 0 0 0) :: ((i s.is8) :: (ra 9 ((i s.is8) :: ((eL tX p.J1) :: ((i (↑(List.length p.J1) : Int)) :: ((b (decide (s.is8 < (↑(List.length p.J1) : Int)))) :: (ra 96 []))))))))))))))), [⟨0, 3, [[(i 0), (i 0), (i 0)]], true, false, 0⟩, ⟨0, 3, [[(i 0), (i 0), (i 0)]], true, false, 0⟩, ⟨0, 3, [[(i s.K6), (i s.K7), (i s.K8)]], true, false, 0⟩, ⟨0, 3, [[(i s.Ia6), (i s.Ia7), (i s.Ia8)]], true, false, 0⟩]⟩)], tc6⟩
theorem tc7 : ib5.Ok := Lo.ok [] (by kernel_rfl) .nil rfl (.cons (fun a H => by kernel_rfl) .nil) fun p s => (.of @la3 (fun F _ _ _ _ _ => by unfold la3; (repeat' apply k9 (f := F)) <;> rfl) (by kernel_rfl))
noncomputable def Na7 (x : List Pln) : Option (b7 × List b8) := let t1 := (Ba2 (rt tP x)); let t2 := (Ea8 (rt tP x)); let t3 := (lp (ha5 (⟨(rt tX t2)⟩ : xa2)) (⟨0, 24, 24, 24, (-24), (-24), (-24)⟩ : Y8)); (sl (okE tP x) (sl (ra0 (rt tP x)) (sl (!t1) (some ((.tup [(.agg [(i 0), (i 0), (i 0)]), (.agg [(i 0), (i 0), (i 0)]), (b false)]), [])) (sl (okE tP x) (sl (Ea9 (rt tP x)) (sl ((cnE tX t2) && true) (sl (Nat.beq t3.1 1) (some ((.tup [(.agg [(i t3.2.K6), (i t3.2.K7), (i t3.2.K8)]), (.agg [(i t3.2.Ia6), (i t3.2.Ia7), (i t3.2.Ia8)]), (b true)]), [])) none) none) none) none)) none) none)
noncomputable def gb1 (x : List Pln) : V3 × V3 × Bool := G6 (Rb6 r1V r1V r1B) (Na7 x)
noncomputable def gb2 (x : List Pln) : Bool := okO (Rb6 r1V r1V r1B) (Na7 x)
noncomputable def fc8 : Sum := ba5 (T5 tP) (fun x => .guard (gb2 x) (.ret ((Rb6 r1V r1V r1B).enc (gb1 x), [])))
theorem Rc4 : f6 prog G 23 fc8 := ua0 (bd b23 Cc5) (Rb6 r1V r1V r1B) (o := Na7) fun x => wa0 (.s .p (.s .p (.s .p (.s .p (.s .p (.s (.s .p (.b (.u ib5.ls))) .p)))))) [ib5.pr] (by kernel_rfl) (.cons tc7 .nil) (by kernel_rfl)
end Go.Ev.Ce
