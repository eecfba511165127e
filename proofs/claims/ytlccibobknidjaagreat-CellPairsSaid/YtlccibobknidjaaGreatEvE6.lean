/- Own work: a part of the proof. -/
import Derived.Test.YtlccibobknidjaaGreatEvD6
import Derived.Test.YtlccibobknidjaaGreatEvD5
set_option linter.unusedVariables false
set_option linter.unusedSimpArgs false
set_option linter.unnecessarySimpa false
set_option linter.unusedSectionVars false
section
namespace Go.Ev.Ce
open Go Go.Ev Go.Ev.L Go.Proofs
set_option maxRecDepth 100000
noncomputable def id1 : List (Nat × Sum) := [(98, na2), (97, dc3), (111, bc9), (35, xc9), (21, Nb2), (46, Wb7), (112, ic0)]
theorem Vc4 : j8 prog G id1 := ⟨va9, xc5, uc6, hd5, gc7, Gc6, Vc3, trivial⟩
noncomputable def cb4 (x : List Int) : Option (b7 × List b8) := let t1 := (l5 ⟨4, (rt tI x), 0⟩); let t2 := (La5 ⟨6, (rt tI (rt tI x)), t1.c8⟩); let t3 := (l5 ⟨6, (rt tI t2.g7), t2.c8⟩); let t4 := (l5 ⟨6, (rt tI (rt tI t2.g7)), t3.c8⟩); let t5 := (l5 ⟨6, (rt tI (rt tI (rt tI t2.g7))), t4.c8⟩); let t6 := (mb8 (⟨t2.ja8, t2.ja9, t2.ka0⟩ : V3) (⟨(W ((W (t2.ja8 + 1)) + t3.is0)), (W ((W (t2.ja9 + 1)) + t4.is0)), (W ((W (t2.ka0 + 1)) + t5.is0))⟩ : V3)); let a0 := (if 7 < (↑(List.length x) : Int) then 7 else (↑(List.length x) : Int)); let a1 := (l0 (fun k => (tP).row (gL tP t6 k)) (List.range (List.length t6))); let a2 := (fun k => (fun k => (tI).row (gL tI x k)) (a0.toNat + k)); let a3 := ((List.length x) - a0.toNat); let t7 := (xc8 (lsL tI a3 a2)); let t8 := (Ka4 [t7]); let t9 := (la7 (lsL tI a3 a2)); let t10 := (ib0 (rt tV t9)); let t11 := (Ka4 (slR tP (app (app [] a1) [[(i t7.n.x), (i t7.n.y), (i t7.n.z), (i t7.b)]]) 0 ((0 + (len a1)) + 1))); (sl ((cnE tI x) && true) (sl (Nat.beq t1.alt 1) (sl ((cnE tI (rt tI x)) && true) (sl (Nat.beq t2.alt 1) (sl ((cnE tI t2.g7) && true) (sl (Nat.beq t3.alt 1) (sl ((cnE tI (rt tI t2.g7)) && true) (sl (Nat.beq t4.alt 1) (sl ((cnE tI (rt tI (rt tI t2.g7))) && true) (sl (Nat.beq t5.alt 1) (sl (Ya0 (⟨t2.ja8, t2.ja9, t2.ka0⟩ : V3) (⟨(W ((W (t2.ja8 + 1)) + t3.is0)), (W ((W (t2.ja9 + 1)) + t4.is0)), (W ((W (t2.ka0 + 1)) + t5.is0))⟩ : V3)) (sl (inB a0 ((List.length x) + 1)) (sl (t1.is0 == 2) (sl (Nat.beq (len a1) 0) (sl (okL tI a3 a2) (sl (sb2 (lsL tI a3 a2)) (sl (Ca2 [t7]) (sl t8 (some ((.sl 0 0 1 0), [⟨50, 4, [[(i t7.n.x), (i t7.n.y), (i t7.n.z), (i t7.b)]], true, false, 0⟩])) (sl (t1.is0 == 3) (sl (okL tI a3 a2) (sl (Ha9 (lsL tI a3 a2)) (sl (okE tV t9) (sl (Da5 (rt tV t9)) (sl (t10.2 == 0) (some ((eL tP t10.1), [])) (some ((eL tP t6), []))) none) none) none) none) (some ((eL tP t6), [])))) none) none) none) (sl (Nat.beq 0 0 && Nat.ble ((0 + (len a1)) * 32) room) (sl (okL tI a3 a2) (sl (sb2 (lsL tI a3 a2)) (sl (Nat.beq (0 + (len a1)) (len (app [] a1)) && Nat.ble (((0 + (len a1)) + 1) * 32) room) (sl (okS tP (app (app [] a1) [[(i t7.n.x), (i t7.n.y), (i t7.n.z), (i t7.b)]]) 0 ((0 + (len a1)) + 1)) (sl (Ca2 (slR tP (app (app [] a1) [[(i t7.n.x), (i t7.n.y), (i t7.n.z), (i t7.b)]]) 0 ((0 + (len a1)) + 1))) (sl t11 (some ((.sl 0 0 ((0 + (len a1)) + 1) 0), [⟨50, 4, (app (app [] a1) [[(i t7.n.x), (i t7.n.y), (i t7.n.z), (i t7.b)]]), true, false, 0⟩])) (sl (t1.is0 == 3) (sl (okL tI a3 a2) (sl (Ha9 (lsL tI a3 a2)) (sl (okE tV t9) (sl (Da5 (rt tV t9)) (sl (t10.2 == 0) (some ((eL tP t10.1), [])) (some ((eL tP t6), []))) none) none) none) none) (some ((eL tP t6), [])))) none) none) none) none) none) none)) (sl (t1.is0 == 3) (sl (okL tI a3 a2) (sl (Ha9 (lsL tI a3 a2)) (sl (okE tV t9) (sl (Da5 (rt tV t9)) (sl (t10.2 == 0) (some ((eL tP t10.1), [])) (some ((eL tP t6), []))) none) none) none) none) (some ((eL tP t6), [])))) none) none) none) none) none) none) none) none) none) none) none) none)
noncomputable def D9 (x : List Int) : List Pln := I6 (one (r1L tP)) (cb4 x)
noncomputable def tb0 (x : List Int) : Bool := okO (one (r1L tP)) (cb4 x)
noncomputable def Ob6 : Sum := da4 (U3 tI) (fun x => .guard (tb0 x) (.ret ((one (r1L tP)).enc (D9 x), [])))
theorem ic1 : i5 prog G 30 Ob6 := xa0 (bd b30 Vc4) (one (r1L tP)) (o := cb4) fun x => r5 (by kernel_rfl)
noncomputable def Vc5 : List (Nat × Sum) := []
theorem Gc7 : j8 prog G Vc5 := trivial
noncomputable def Qa5 (x : List Pln) : Option (b7 × List b8) := (sl (inB (if 8 < (↑(List.length x) : Int) then 8 else (↑(List.length x) : Int)) ((List.length x) + 1)) (some ((.tree 4 ((if 8 < (↑(List.length x) : Int) then 8 else (↑(List.length x) : Int)).toNat - 0) (fun k => (fun k => (tP).row (gL tP x k)) (0 + k))), [])) none)
noncomputable def Qa6 (x : List Pln) : List Pln := I6 (one (r1L tP)) (Qa5 x)
noncomputable def Cb7 (x : List Pln) : Bool := okO (one (r1L tP)) (Qa5 x)
noncomputable def ic2 : Sum := da4 (U3 tP) (fun x => .guard (Cb7 x) (.ret ((one (r1L tP)).enc (Qa6 x), [])))
theorem Vc6 : i5 prog G 82 ic2 := xa0 (bd b82 Gc7) (one (r1L tP)) (o := Qa5) fun x => r5 (by kernel_rfl)
noncomputable def ib1 : List (Nat × Sum) := []
theorem Ob7 : j8 prog G ib1 := trivial
structure aa9 where
 z7 : List Pt
 Bc6 : List Pt
structure B7 where
 is5 : Int
noncomputable def Ib2 (p : aa9) (s : B7) : St := ⟨((eL tX p.z7) :: ((eL tX p.Bc6) :: (ra 3 ((i s.is5) :: (ra 20 []))))), []⟩
noncomputable def T8 {α : Type} (k : B7 → α) (e : Nat → α) (z : α) (p : aa9) (s : B7) : α := (sl (decide (s.is5 < (↑(List.length p.z7) : Int))) (sl (inB s.is5 (List.length p.z7)) (sl (inB s.is5 (List.length p.Bc6)) (sl (!(((gL tX p.z7 s.is5.toNat).px == (gL tX p.Bc6 s.is5.toNat).px) && (((gL tX p.z7 s.is5.toNat).py == (gL tX p.Bc6 s.is5.toNat).py) && (((gL tX p.z7 s.is5.toNat).pz == (gL tX p.Bc6 s.is5.toNat).pz) && (((gL tX p.z7 s.is5.toNat).pw == (gL tX p.Bc6 s.is5.toNat).pw) && true))))) (e 1) (k ⟨(W (s.is5 + 1))⟩)) z) z) (e 2))
noncomputable def W7 (p : aa9) (s : B7) : Stp B7 := T8 .next .exit .fail p s
noncomputable def Ca4 : Lo aa9 B7 := ⟨En ib1, 0, oe0, [1, 1, 0, 1, 4, 4], [0, 1, 5], .p, [⟨((.s (.c 4 (nL tX))) :: ((.s (.c 4 (nL tX))) :: (ru2 3 ((.s (.o (.int .i64))) :: (ru2 20 []))))), [], fun a H => (⟨(rL tX (slT a 0)), (rL tX (slT a 1))⟩, ⟨(toI (slT a 5))⟩)⟩], W7, [(none, fun p s => ⟨[(b false)], []⟩), (some 0, fun p s => ⟨((eL tX p.z7) :: ((eL tX p.Bc6) :: (ra 3 ((i s.is5) :: (ra 5 ((i s.is5) :: ((eL tX p.z7) :: ((i (↑(List.length p.z7) : Int)) :: ((b (decide (s.is5 < (↑(List.length p.z7) : Int)))) :: (ra 11 [])))))))))), []⟩)], Ib2⟩
theorem Ib3 : Ca4.Ok := Lo.ok [] (by kernel_rfl) .nil rfl (.cons (fun a H => by kernel_rfl) .nil) fun p s => (.of @T8 (fun F _ _ _ _ _ => by unfold T8; (repeat' apply m8 (f := F)) <;> rfl) (by kernel_rfl))
noncomputable def ja0 (x : List Pt) (y : List Pt) : Option (b7 × List b8) := let t1 := (lp (W7 (⟨(rt tX x), (rt tX y)⟩ : aa9)) (⟨0⟩ : B7)); (sl ((↑(List.length x) : Int) != (↑(List.length y) : Int)) (some ((b false), [])) (sl ((cnE tX x) && ((cnE tX y) && true)) (sl (Nat.beq t1.1 1) (some ((b false), [])) (sl (Nat.beq t1.1 2) (some ((b true), [])) none)) none))
noncomputable def ja1 (x : List Pt) (y : List Pt) : Bool := I6 (one r1B) (ja0 x y)
noncomputable def ja2 (x : List Pt) (y : List Pt) : Bool := okO (one r1B) (ja0 x y)
noncomputable def ob1 : Sum := ga9 (U3 tX) (U3 tX) (fun x y => .guard (ja2 x y) (.ret ((one r1B).enc (ja1 x y), [])))
theorem Wb8 : i5 prog G 17 ob1 := Za1 (bd b17 Ob7) (one r1B) (o := ja0) fun x y => xa1 (.s .p (.s .p (.s (.s .p (.b (.u Ca4.ls))) .p))) [Ca4.pr] (by kernel_rfl) (.cons Ib3 .nil) (by kernel_rfl)
noncomputable def ic3 : List (Nat × Sum) := []
theorem Vc7 : j8 prog G ic3 := trivial
structure Ia0 where
 c9 : List Pln
 ob5 : List Pln
structure Y1 where
 is5 : Int
noncomputable def Gc8 (p : Ia0) (s : Y1) : St := ⟨((eL tP p.c9) :: ((eL tP p.ob5) :: (ra 3 ((i s.is5) :: (ra 20 []))))), []⟩
noncomputable def ua2 {α : Type} (k : Y1 → α) (e : Nat → α) (z : α) (p : Ia0) (s : Y1) : α := (sl (decide (s.is5 < (↑(List.length p.c9) : Int))) (sl (inB s.is5 (List.length p.c9)) (sl (inB s.is5 (List.length p.ob5)) (sl (!(((gL tP p.c9 s.is5.toNat).n.x == (gL tP p.ob5 s.is5.toNat).n.x) && (((gL tP p.c9 s.is5.toNat).n.y == (gL tP p.ob5 s.is5.toNat).n.y) && (((gL tP p.c9 s.is5.toNat).n.z == (gL tP p.ob5 s.is5.toNat).n.z) && (((gL tP p.c9 s.is5.toNat).b == (gL tP p.ob5 s.is5.toNat).b) && true))))) (e 1) (k ⟨(W (s.is5 + 1))⟩)) z) z) (e 2))
noncomputable def za8 (p : Ia0) (s : Y1) : Stp Y1 := ua2 .next .exit .fail p s
noncomputable def tb1 : Lo Ia0 Y1 := ⟨En ic3, 0, oe2, [1, 1, 0, 1, 4, 4], [0, 1, 5], .p, [⟨((.s (.c 4 (nL tP))) :: ((.s (.c 4 (nL tP))) :: (ru2 3 ((.s (.o (.int .i64))) :: (ru2 20 []))))), [], fun a H => (⟨(rL tP (slT a 0)), (rL tP (slT a 1))⟩, ⟨(toI (slT a 5))⟩)⟩], za8, [(none, fun p s => ⟨[(b false)], []⟩), (some 0, fun p s => ⟨((eL tP p.c9) :: ((eL tP p.ob5) :: (ra 3 ((i s.is5) :: (ra 5 ((i s.is5) :: ((eL tP p.c9) :: ((i (↑(List.length p.c9) : Int)) :: ((b (decide (s.is5 < (↑(List.length p.c9) : Int)))) :: (ra 11 [])))))))))), []⟩)], Gc8⟩
theorem Gc9 : tb1.Ok := Lo.ok [] (by kernel_rfl) .nil rfl (.cons (fun a H => by kernel_rfl) .nil) fun p s => (.of @ua2 (fun F _ _ _ _ _ => by unfold ua2; (repeat' apply m8 (f := F)) <;> rfl) (by kernel_rfl))
noncomputable def cb5 (x : List Pln) (y : List Pln) : Option (b7 × List b8) := let t1 := (lp (za8 (⟨(rt tP x), (rt tP y)⟩ : Ia0)) (⟨0⟩ : Y1)); (sl ((↑(List.length x) : Int) != (↑(List.length y) : Int)) (some ((b false), [])) (sl ((cnE tP x) && ((cnE tP y) && true)) (sl (Nat.beq t1.1 1) (some ((b false), [])) (sl (Nat.beq t1.1 2) (some ((b true), [])) none)) none))
noncomputable def tb2 (x : List Pln) (y : List Pln) : Bool := I6 (one r1B) (cb5 x y)
noncomputable def tb3 (x : List Pln) (y : List Pln) : Bool := okO (one r1B) (cb5 x y)
noncomputable def zc3 : Sum := ga9 (U3 tP) (U3 tP) (fun x y => .guard (tb3 x y) (.ret ((one r1B).enc (tb2 x y), [])))
theorem id3 : i5 prog G 26 zc3 := Za1 (bd b26 Vc7) (one r1B) (o := cb5) fun x y => xa1 (.s .p (.s .p (.s (.s .p (.b (.u tb1.ls))) .p))) [tb1.pr] (by kernel_rfl) (.cons Gc9 .nil) (by kernel_rfl)
noncomputable def zc4 : List (Nat × Sum) := [(47, nb1), (118, Mc8), (119, Ob3)]
theorem id4 : j8 prog G zc4 := ⟨qb8, rd4, hc5, trivial⟩
structure Qa7 where
 is6 : Int
structure ka9 where
 ns5 : Nat
 eh0 : List (List b7)
noncomputable def Vc8 (p : Qa7) (s : ka9) : St := ⟨(ra 5 ((.sl 0 0 s.ns5 0) :: ((i p.is6) :: (ra 91 [])))), [⟨50, 4, s.eh0, true, false, 0⟩]⟩
noncomputable def Ma6 {α : Type} (k : ka9 → α) (e : Nat → α) (z : α) (p : Qa7) (s : ka9) : α := (sl (decide ((↑s.ns5 : Int) ≤ 48)) (sl (inB p.is6 s.ns5) (sl (ldR tP s.eh0 (0 + p.is6.toNat)) (sl (Nat.beq s.ns5 (len s.eh0) && Nat.ble ((s.ns5 + 1) * 32) room) (k ⟨(s.ns5 + 1), (app s.eh0 [[(i (rdR tP s.eh0 (0 + p.is6.toNat)).n.x), (i (rdR tP s.eh0 (0 + p.is6.toNat)).n.y), (i (rdR tP s.eh0 (0 + p.is6.toNat)).n.z), (i (rdR tP s.eh0 (0 + p.is6.toNat)).b)]])⟩) z) z) z) (e 1))
noncomputable def Ia1 (p : Qa7) (s : ka9) : Stp ka9 := Ma6 .next .exit .fail p s
noncomputable def Cb8 : Lo Qa7 ka9 := ⟨En zc4, 0, oe4, [1, 1, 1, 1, 0, 1, 4, 1, 3, 1, 3, 1, 3, 1, 3, 1, 3, 1, 2, 4, 4], [5, 6], .p, [⟨(ru2 5 ((.s (.o (.sl 0 0 (some 0) none))) :: ((.s (.o (.int .i64))) :: (ru2 91 [])))), [⟨50, 4, true, none⟩], fun a H => (⟨(toI (slT a 6))⟩, ⟨(slN (slT a 5)), (elT H 0)⟩)⟩], Ia1, [(some 1, fun p s => ⟨(ra 5 ((.sl 0 0 s.ns5 0) :: ((i p.is6) :: (ra 80 ((.sl 0 0 s.ns5 0) :: ((i (↑s.ns5 : Int)) :: ((b (decide ((↑s.ns5 : Int) ≤ 48))) :: (ra 8 [])))))))), [⟨50, 4, s.eh0, true, false, 0⟩]⟩)], Vc8⟩
theorem Vc9 : Cb8.Ok := Lo.ok [] (by kernel_rfl) .nil rfl (.cons (fun a H => by kernel_rfl) .nil) fun p s => (.of @Ma6 (fun F _ _ _ _ _ => by unfold Ma6; (repeat' apply m8 (f := F)) <;> rfl) (by kernel_rfl))
noncomputable def ob2 (x : List Pln) (y : V3) : Option (b7 × List b8) := let t2 := (oa3 y.x 6); let t5 := (oa3 y.z 9); let a0 := (l0 (fun k => (tP).row (gL tP x k)) (List.range (List.length x))); let t1 := (oa3 y.y (↑(0 + (len a0)) : Int)); let t6 := (lp (Ia1 (⟨t1⟩ : Qa7)) (⟨(0 + (len a0)), (app [] a0)⟩ : ka9)); let a1 := (D6 (d8 (app [] a0) (0 + (W (t1 + 1)).toNat)) ((0 + (len a0)) - (W (t1 + 1)).toNat)); let a2 := (d9 (app [] a0) (0 + t1.toNat)); let a3 := (rdR tP (app [] a0) (0 + t1.toNat)); let t3 := (Mc7 a3 (⟨y.z, y.y, y.x⟩ : V3)); let t4 := (sb3 a3); let a4 := (Nat.blt (0 + t1.toNat) (len (app [] a0))); (sl (Nat.beq (len a0) 0) (some ((.sl 0 0 1 0), [⟨50, 4, [[(i 0), (i 0), (i 0), (i 0)]], true, false, 0⟩])) (sl (Nat.beq 0 0 && Nat.ble ((0 + (len a0)) * 32) room) (sl ((↑(0 + (len a0)) : Int) == 0) (some ((.sl 0 0 1 0), [⟨50, 4, [[(i 0), (i 0), (i 0), (i 0)]], true, false, 0⟩])) (sl (ha8 y.y (↑(0 + (len a0)) : Int)) (sl (ha8 y.x 6) (sl (t2 == 0) (sl (inB t1 (0 + (len a0))) (sl (ldR tP (app [] a0) (0 + t1.toNat)) (sl (dc8 a3 (⟨y.z, y.y, y.x⟩ : V3)) (sl (inB t1 (0 + (len a0))) (sl (a4 && (Nat.ble (0 + 4) (len a2))) (some ((.sl 0 0 (0 + (len a0)) 0), [⟨50, 4, (setAt (app [] a0) (0 + t1.toNat) (I1 a2 0 [(i t3.n.x), (i t3.n.y), (i t3.n.z), (i t3.b)])), true, false, 0⟩])) none) none) none) none) none) (sl (t2 == 1) (sl (inB t1 ((0 + (len a0)) + 1)) (sl (inB (W (t1 + 1)) ((0 + (len a0)) + 1)) (sl (Nat.ble ((t1.toNat - 0) + (len a1)) (len (app [] a0))) (some ((.sl 0 0 ((t1.toNat - 0) + (len a1)) 0), [⟨50, 4, (app (D6 (app [] a0) (t1.toNat - 0)) (app a1 (d8 (app [] a0) ((t1.toNat - 0) + (len a1))))), true, false, 0⟩])) none) none) none) (sl (t2 == 2) (sl (inB t1 (0 + (len a0))) (sl (ldR tP (app [] a0) (0 + t1.toNat)) (sl (inB t1 (0 + (len a0))) (sl (a4 && (Nat.ble (0 + 4) (len a2))) (some ((.sl 0 0 (0 + (len a0)) 0), [⟨50, 4, (setAt (app [] a0) (0 + t1.toNat) (I1 a2 0 [(i t4.n.x), (i t4.n.y), (i t4.n.z), (i t4.b)])), true, false, 0⟩])) none) none) none) none) (sl (t2 == 3) (sl (inB t1 (0 + (len a0))) (sl (ldR tP (app [] a0) (0 + t1.toNat)) (sl (Nat.beq (0 + (len a0)) (len (app [] a0)) && Nat.ble (((0 + (len a0)) + 1) * 32) room) (some ((.sl 0 0 ((0 + (len a0)) + 1) 0), [⟨50, 4, (app (app [] a0) [[(i a3.n.x), (i a3.n.y), (i a3.n.z), (i a3.b)]]), true, false, 0⟩])) none) none) none) (sl (t2 == 4) (sl (inB t1 (0 + (len a0))) (sl ((a4 && (Nat.ble (3 + 1) (len a2))) && (I0 [(CK.int .i64)] (d8 a2 3))) (sl (ha8 y.z 9) (sl (inB t1 (0 + (len a0))) (sl (a4 && (Nat.ble (3 + 1) (len a2))) (some ((.sl 0 0 (0 + (len a0)) 0), [⟨50, 4, (setAt (app [] a0) (0 + t1.toNat) (I1 a2 3 [(i (W ((W ((toI (hdA (d8 a2 3))) + t5)) - 4)))])), true, false, 0⟩])) none) none) none) none) none) (sl (t2 == 5) (sl (Nat.beq t6.1 1) (some ((.sl 0 0 t6.2.ns5 0), [⟨50, 4, t6.2.eh0, true, false, 0⟩])) none) (some ((.sl 0 0 (0 + (len a0)) 0), [⟨50, 4, (app [] a0), true, false, 0⟩])))))))) none) none)) none))
noncomputable def ca9 (x : List Pln) (y : V3) : List Pln := I6 (one (r1L tP)) (ob2 x y)
noncomputable def ob3 (x : List Pln) (y : V3) : Bool := okO (one (r1L tP)) (ob2 x y)
noncomputable def Nc0 : Sum := ga9 (U3 tP) (N8 tV) (fun x y => .guard (ob3 x y) (.ret ((one (r1L tP)).enc (ca9 x y), [])))
theorem rd6 : i5 prog G 39 Nc0 := Za1 (bd b39 id4) (one (r1L tP)) (o := ob2) fun x y => xa1 (.s .p (.s .p (.s .p (.s .p (.s (.s .p (.b (.s .p (.c .p (.s .p (.c .p (.s .p (.c .p (.s .p (.c .p (.s .p (.c .p (.s .p (.c (.b (.u Cb8.ls)) .p)))))))))))))) .p))))) [Cb8.pr] (by kernel_rfl) (.cons Vc9 .nil) (by kernel_rfl)
end Go.Ev.Ce
end
namespace Go.Ev.Ce
open Go Go.Ev Go.Ev.L Go.Proofs
theorem id5 {Q : Pt → Prop} (r : List Pln) (p q : Pln) : ∀ (l : List Pln) (out : List Pt), (∀ s ∈ l, (mpt p q s).2 = true → inn r (mpt p q s).1 = true → Q (mpt p q s).1) → (∀ x ∈ out, Q x) → ∀ x ∈ sb0 r p q l out, Q x
 | [], out, _, h => h
 | s :: l, out, hs, h => id5 r p q l (Pa6 r p q out s) (fun t ht => hs t (List.mem_cons_of_mem _ ht)) fun x hx => by
  unfold Pa6 at hx
  split at hx
  ·rename_i hc
   rw [Bool.and_eq_true, Bool.and_eq_true] at hc
   rcases List.mem_append.1 hx with hx | hx
   ·exact h x hx
   ·rw [List.mem_singleton] at hx
    subst hx
    exact hs s List.mem_cons_self hc.1 hc.2.2
  ·exact h x hx
theorem id6 {Q : Pt → Prop} (r : List Pln) (p : Pln) : ∀ (l : List Pln) (out : List Pt), (∀ q ∈ l, ∀ s ∈ l, (mpt p q s).2 = true → inn r (mpt p q s).1 = true → Q (mpt p q s).1) → (∀ x ∈ out, Q x) → ∀ x ∈ vb6 r p l out, Q x
 | [], out, _, h => h
 | q :: l, out, hs, h => id6 r p l _ (fun a ha t ht => hs a (List.mem_cons_of_mem _ ha) t (List.mem_cons_of_mem _ ht)) (id5 r p q l out (fun t ht => hs q List.mem_cons_self t (List.mem_cons_of_mem _ ht)) h)
theorem id7 {Q : Pt → Prop} (r : List Pln) : ∀ (l : List Pln) (out : List Pt), (∀ p ∈ l, ∀ q ∈ l, ∀ s ∈ l, (mpt p q s).2 = true → inn r (mpt p q s).1 = true → Q (mpt p q s).1) → (∀ x ∈ out, Q x) → ∀ x ∈ Dd8 r l out, Q x
 | [], out, _, h => h
 | p :: l, out, hs, h => id7 r l _ (fun a ha c hc t ht => hs a (List.mem_cons_of_mem _ ha) c (List.mem_cons_of_mem _ hc) t (List.mem_cons_of_mem _ ht)) (id6 r p l out (fun c hc t ht => hs p List.mem_cons_self c (List.mem_cons_of_mem _ hc) t (List.mem_cons_of_mem _ ht)) h)
theorem Xd1 {Q : Pt → Prop} {r : List Pln} (hs : ∀ p ∈ r, ∀ q ∈ r, ∀ s ∈ r, (mpt p q s).2 = true → inn r (mpt p q s).1 = true → Q (mpt p q s).1) : ∀ x ∈ cor r, Q x :=
 id7 r r [] hs fun x hx => by cases hx
structure Okx (x : Pt) : Prop where
 w1 : 0 < x.pw
 w2 : x.pw ≤ 600000000000
 c1 : Sm 300000000000000 x.px
 c2 : Sm 300000000000000 x.py
 c3 : Sm 300000000000000 x.pz
theorem Xd2 {r : List Pln} (hb : Bds r) : ∀ x ∈ cor r, Okx x := Xd1 fun p hp q hq s hs h _ => by
 obtain ⟨h1, h2, h3, h4, h5⟩ := ie6 (hb p hp) (hb q hq) (hb s hs) h
 exact ⟨h1, h5, h2, h3, h4⟩
theorem Xd3 {c : List Pln} : ∀ x ∈ pts c, Okx x := by
 unfold pts
 cases h : chk c == 0 with
 | false => intro x hx; cases hx
 | true => exact Xd2 (sb1 h).1
theorem oc4 (c : List Pln) : (pts c).length ≤ 8000000 := by
 unfold pts
 cases h : chk c == 0 with
 | false => exact Nat.zero_le _
 | true => exact Uc1 _ (sb1 h).1 (sb1 h).2
theorem id8 {x y : Int} (hy : 0 < y) : Int.tmod x y + y * Int.tdiv x y = x ∧ -y < Int.tmod x y ∧ Int.tmod x y < y := by
 refine ⟨Int.tmod_add_mul_tdiv x y, ?_, Int.tmod_lt_of_pos x hy⟩
 have := Int.lt_tmod_of_pos x hy
 omega
theorem xd0 {x y q r : Int} (hy : 0 < y) (h : r + y * q = x) (h1 : 0 ≤ r) (h2 : r < y) : x / y = q := ((Int.ediv_emod_unique hy).2 ⟨h, h1, h2⟩).1
theorem Xd4 {x y : Int} (hx : Sm 300000000000000 x) (hy : 0 < y) : Sm 300000000000000 (Int.tdiv x y) := F4 hx hy
theorem id9 {x y : Int} (hx : Sm 300000000000000 x) (hy : 0 < y) : Ha0 x y = some (i (x / y), []) := by
 have hz : (y == 0) = false := by rw [beq_eq_false_iff_ne]; omega
 obtain ⟨h1, h2, h3⟩ := id8 (x := x) hy
 have hb := Xd4 hx hy
 unfold Ha0
 rw [bf hz, bf hz, ta3 (hb.mono (by omega))]
 by_cases h : Int.tmod x y < 0
 ·rw [btD h, xd0 hy (q := Int.tdiv x y - 1) (r := Int.tmod x y + y) (by rw [Int.mul_sub]; omega) (by omega) (by omega), Ca0 (by have := hb.1; omega) (by have := hb.2; omega)]
 ·rw [bfD h, xd0 hy h1 (by omega) h3]
theorem Gb3 {x y : Int} (hx : Sm 300000000000000 x) (hy : 0 < y) : X9 x y = x / y := by unfold X9; rw [id9 hx hy]; rfl
theorem Gb4 {x y : Int} (hx : Sm 300000000000000 x) (hy : 0 < y) : Y0 x y = true := by unfold Y0; rw [id9 hx hy]; rfl
theorem Nd5 (x : Int) {y : Int} (hy : 0 < y) (hy2 : y ≤ 4000000000000000000) : nb0 x y = some (i (x % y), []) := by
 have hz : (y == 0) = false := by rw [beq_eq_false_iff_ne]; omega
 obtain ⟨h1, h2, h3⟩ := id8 (x := x) hy
 unfold nb0
 rw [bfD (by omega), bf hz, bf hz, Ca0 (by omega) (by omega), Int.tmod_eq_emod_of_nonneg (by omega)]
 congr 3
 rw [Int.add_emod_right]
 conv => rhs; rw [← h1]
 rw [Int.add_mul_emod_self_left]
theorem xd1 (x : Int) {y : Int} (hy : 0 < y) (hy2 : y ≤ 4000000000000000000) : oa3 x y = x % y := by unfold oa3; rw [Nd5 x hy hy2]; rfl
theorem zc5 (x : Int) {y : Int} (hy : 0 < y) (hy2 : y ≤ 4000000000000000000) : ha8 x y = true := by unfold ha8; rw [Nd5 x hy hy2]; rfl
noncomputable def Wb9 (s : V3 × V3) (x : Pt) : V3 × V3 :=
 (⟨if x.px / x.pw < s.1.x then x.px / x.pw else s.1.x, if x.py / x.pw < s.1.y then x.py / x.pw else s.1.y, if x.pz / x.pw < s.1.z then x.pz / x.pw else s.1.z⟩,
  ⟨if W (0 - -x.px / x.pw) > s.2.x then W (0 - -x.px / x.pw) else s.2.x, if W (0 - -x.py / x.pw) > s.2.y then W (0 - -x.py / x.pw) else s.2.y, if W (0 - -x.pz / x.pw) > s.2.z then W (0 - -x.pz / x.pw) else s.2.z⟩)
noncomputable def bnd (c : List Pln) : V3 × V3 × Bool :=
 if ful c then (((pts c).foldl Wb9 (⟨24, 24, 24⟩, ⟨-24, -24, -24⟩)).1, ((pts c).foldl Wb9 (⟨24, 24, 24⟩, ⟨-24, -24, -24⟩)).2, true) else (⟨0, 0, 0⟩, ⟨0, 0, 0⟩, false)
theorem Nd6 {x : Int} (h : Sm 300000000000000 x) : W (0 - x) = -x := by obtain ⟨h1, h2⟩ := h; rw [Ca0 (by omega) (by omega)]; omega
theorem Sm.neg {n x : Int} (h : Sm n x) : Sm n (-x) := ⟨by have := h.2; omega, by have := h.1; omega⟩
noncomputable def se7 (r : V3 × V3 × Bool) : b7 := .tup [.agg (tV.row r.1), .agg (tV.row r.2.1), b r.2.2]
theorem rd7 (X : List Pt) (hX : X.length ≤ 8000000) (hok : ∀ x ∈ X, Okx x) (s : V3 × V3) : ∃ m, lp (ca7 ⟨X, (X.length : Int)⟩) ⟨0, s.1.x, s.1.y, s.1.z, s.2.x, s.2.y, s.2.z⟩ = (1, ⟨m, (X.foldl Wb9 s).1.x, (X.foldl Wb9 s).1.y, (X.foldl Wb9 s).1.z, (X.foldl Wb9 s).2.x, (X.foldl Wb9 s).2.y, (X.foldl Wb9 s).2.z⟩) := by
 have h := Sb3 (step := ca7 ⟨X, (X.length : Int)⟩) (mk := fun j (s : V3 × V3) => (⟨(j : Int), s.1.x, s.1.y, s.1.z, s.2.x, s.2.y, s.2.z⟩ : T6)) (f := Wb9) (fin := 1) tX X (fun _ _ => True) (by omega)
  (fun j s hj _ => ⟨by
   have hx := hok _ (sc8 tX hj)
   simp only [ca7, ia8, Int.toNat_natCast, Nd6 hx.c1, Nd6 hx.c2, Nd6 hx.c3, Gb3 hx.c1 hx.w1, Gb3 hx.c2 hx.w1, Gb3 hx.c3 hx.w1, Gb4 hx.c1 hx.w1, Gb4 hx.c2 hx.w1, Gb4 hx.c3 hx.w1,
    Gb3 hx.c1.neg hx.w1, Gb3 hx.c2.neg hx.w1, Gb3 hx.c3.neg hx.w1, Gb4 hx.c1.neg hx.w1, Gb4 hx.c2.neg hx.w1, Gb4 hx.c3.neg hx.w1, p6 hj (by omega)]
   rw [btD (o5 hj), bt (f9 hj)]
   rfl, trivial⟩)
  (fun s _ => by simp only [ca7, ia8]; rw [bfD (W6 (Nat.lt_irrefl _))]) 0 (Nat.zero_le _) s trivial
 have h := h.1
 rw [List.drop_zero] at h
 exact ⟨_, h⟩
theorem jd0 {c : List Pln} (hc : c.length ≤ 1000000000) : Ha1 c = some (se7 (bnd c), []) := by
 have ht : N2 ⟨24, 24, 24⟩ (-1) = ⟨-24, -24, -24⟩ := by
  unfold N2
  rw [show W (24 * -1) = -24 from by rw [Bd8]; rfl]
 obtain ⟨m, hm⟩ := rd7 (pts c) (oc4 c) Xd3 (⟨24, 24, 24⟩, ⟨-24, -24, -24⟩)
 unfold Ha1 bnd
 simp only [l9, G3, o2, xc3 hc, xc4 hc, Cb0 hc, Cb1 hc, ht, hm]
 cases ful c <;> rfl
theorem xd2 (r : V3 × V3 × Bool) : (bd7 r1V r1V r1B).rd (se7 r, []) = some r := rfl
theorem Xd5 {c : List Pln} (hc : c.length ≤ 1000000000) : Wa6 c = bnd c := by unfold Wa6; rw [jd0 hc]; exact va8 _ (xd2 _)
theorem Xd6 {c : List Pln} (hc : c.length ≤ 1000000000) : Wa7 c = true := by unfold Wa7; rw [jd0 hc]; exact Ha3 _ (xd2 _)
theorem Nd7 (x : Pt) : (x.px == x.px && (x.py == x.py && (x.pz == x.pz && (x.pw == x.pw && true)))) = true := (Vd4 x x).2 rfl
theorem Nd8 (x : Pln) : (x.n.x == x.n.x && (x.n.y == x.n.y && (x.n.z == x.n.z && (x.b == x.b && true)))) = true := by simp
theorem Kb3 (l : List Pt) (hl : l.length ≤ 1000000000) : ja0 l l = some (b true, []) := by
 have h := Za3 (step := W7 ⟨l, l⟩) (mk := fun j => (⟨(j : Int)⟩ : B7)) (c := fun _ => false) (u := 1) (fin := 2) tX l hl
  (fun j hj => by
   simp only [W7, T8, Int.toNat_natCast, p6 hj (by omega), Nd7]
   rw [btD (o5 hj), bt (f9 hj), bt (f9 hj)]
   rfl)
  (by simp only [W7, T8]; rw [bfD (W6 (Nat.lt_irrefl _))]) 0 (Nat.zero_le _)
 rw [List.drop_zero, show (l.any fun _ => false) = false by simp] at h
 unfold ja0
 simp only [l9, o2]
 rw [show (⟨0⟩ : B7) = ⟨((0 : Nat) : Int)⟩ from rfl, h, bf (by simp)]
 rfl
theorem Xb0 (l : List Pt) (hl : l.length ≤ 1000000000) : ja1 l l = true := by unfold ja1; rw [Kb3 l hl]; rfl
theorem Xb1 (l : List Pt) (hl : l.length ≤ 1000000000) : ja2 l l = true := by unfold ja2; rw [Kb3 l hl]; rfl
theorem xd3 (l : List Pln) (hl : l.length ≤ 1000000000) : cb5 l l = some (b true, []) := by
 have h := Za3 (step := za8 ⟨l, l⟩) (mk := fun j => (⟨(j : Int)⟩ : Y1)) (c := fun _ => false) (u := 1) (fin := 2) tP l hl
  (fun j hj => by
   simp only [za8, ua2, Int.toNat_natCast, p6 hj (by omega), Nd8]
   rw [btD (o5 hj), bt (f9 hj), bt (f9 hj)]
   rfl)
  (by simp only [za8, ua2]; rw [bfD (W6 (Nat.lt_irrefl _))]) 0 (Nat.zero_le _)
 rw [List.drop_zero, show (l.any fun _ => false) = false by simp] at h
 unfold cb5
 simp only [l9, o2]
 rw [show (⟨0⟩ : Y1) = ⟨((0 : Nat) : Int)⟩ from rfl, h, bf (by simp)]
 rfl
theorem je9 (l : List Pln) (hl : l.length ≤ 1000000000) : tb2 l l = true := by unfold tb2; rw [xd3 l hl]; rfl
theorem ke0 (l : List Pln) (hl : l.length ≤ 1000000000) : tb3 l l = true := by unfold tb3; rw [xd3 l hl]; rfl
end Go.Ev.Ce
namespace Go.Ev.Ce
open Go Go.Ev Go.Ev.L Go.Proofs
def Nx {σ : Type} (x : Stp σ) (E : Nat → Prop) (N : σ → Prop) : Prop := (∃ t, x = .exit t ∧ E t) ∨ ∃ s, x = .next s ∧ N s
theorem Nx.sl {σ : Type} {c : Bool} {t e : Stp σ} {E : Nat → Prop} {N : σ → Prop} (h1 : c = true → Nx t E N) (h2 : c = false → Nx e E N) : Nx (sl c t e) E N := by cases c; exact h2 rfl; exact h1 rfl
theorem Nx.ex {σ : Type} {t : Nat} {E : Nat → Prop} {N : σ → Prop} (h : E t) : Nx (.exit t) E N := .inl ⟨t, rfl, h⟩
theorem Nx.nx {σ : Type} {s : σ} {E : Nat → Prop} {N : σ → Prop} (h : N s) : Nx (.next s) E N := .inr ⟨s, rfl, h⟩
theorem Ba0 {σ τ : Type} {step : σ → Stp σ} {mk : Nat → τ → σ} (n : Nat) (I : Nat → τ → Prop) (E : Nat → σ → Prop) (hn : n ≤ 1000000000)
  (h : ∀ j a, j < n → I j a → Nx (step (mk j a)) (fun t => E t (mk j a)) (fun s => ∃ a', s = mk (j + 1) a' ∧ I (j + 1) a'))
  (hf : ∀ j a, n ≤ j → I j a → ∃ t, step (mk j a) = .exit t ∧ E t (mk j a)) (j0 : Nat) (a : τ) (hi : I j0 a) : ∃ t s, lp step (mk j0 a) = (t, s) ∧ E t s := by
 have key := zb4 (step := step) (I := fun m s => ∃ j a, m = n - j ∧ s = mk j a ∧ I j a) (Q := E) (fun m s ⟨j, a, hm, hs, ha⟩ => by
  subst hs
  by_cases hlt : j < n
  ·rcases h j a hlt ha with h1 | ⟨s', h1, a', h2, h3⟩
   ·exact .inl h1
   ·subst h2
    exact .inr ⟨_, n - (j + 1), by omega, h1, j + 1, a', rfl, rfl, h3⟩
  ·exact .inl (hf j a (by omega) ha)) (n - j0) (mk j0 a) (by omega) ⟨j0, a, rfl, rfl, hi⟩
 exact ⟨_, _, rfl, key⟩
def Rd {ρ : Type} (R : RR ρ) (o : Option (b7 × List b8)) (P : ρ → Prop) : Prop := ∃ x r, o = some x ∧ R.rd x = some r ∧ P r
theorem Rd.p {ρ : Type} {R : RR ρ} {o : Option (b7 × List b8)} {P : ρ → Prop} (h : Rd R o P) : P (I6 R o) := by
 obtain ⟨x, r, h1, h2, h3⟩ := h
 rw [h1, va8 R h2]
 exact h3
theorem Rd.g {ρ : Type} {R : RR ρ} {o : Option (b7 × List b8)} {P : ρ → Prop} (h : Rd R o P) : okO R o = true := by
 obtain ⟨x, r, h1, h2, h3⟩ := h
 rw [h1]
 exact Ha3 R h2
theorem Rd.sl {ρ : Type} {R : RR ρ} {c : Bool} {t e : Option (b7 × List b8)} {P : ρ → Prop} (h1 : c = true → Rd R t P) (h2 : c = false → Rd R e P) : Rd R (sl c t e) P := by cases c; exact h2 rfl; exact h1 rfl
theorem qa5 (n : Int) (l : List Int) (j : Int) (h1 : 0 ≤ j) (h2 : j ≤ 1000000) (hn : 0 < n) (hn2 : n ≤ 1000000) :
  ∃ v j', l5 ⟨n, l, j⟩ = ⟨1, v, j'⟩ ∧ 0 ≤ v ∧ v < n ∧ j ≤ j' ∧ j' ≤ j + 1 := by
 unfold l5 ca8
 simp only
 by_cases h : j ≥ (l.length : Int)
 ·rw [btD h]
  exact ⟨0, j, rfl, by omega, hn, by omega, by omega⟩
 ·rw [bfD h]
  have hW : W (W (j + 1) - 1) = j := by rw [sc7, Ca0 (by omega) (by omega)]; omega
  have hW2 : W (j + 1) = j + 1 := Ca0 (by omega) (by omega)
  have hin : inB j l.length = true := by rw [oc0]; exact decide_eq_true (by omega)
  rw [hW, hW2, hin, zc5 _ hn (by omega), xd1 _ hn (by omega)]
  exact ⟨_, _, rfl, Int.emod_nonneg _ (by omega), Int.emod_lt_of_pos _ hn, by omega, by omega⟩
theorem Wc0 (m : Int) (l : List Int) (j : Int) (h1 : 0 ≤ j) (h2 : j ≤ 900000) (hm : 0 ≤ m) (hm2 : m ≤ 100000) :
  ∃ a b c j', La5 ⟨m, l, j⟩ = ⟨1, a, b, c, l, j'⟩ ∧ Sm m a ∧ Sm m b ∧ Sm m c ∧ j ≤ j' ∧ j' ≤ j + 3 := by
 unfold La5 Ya1
 simp only [l9, o2]
 have hW : W (W (2 * m) + 1) = 2 * m + 1 := by rw [jb0, Ca0 (by omega) (by omega)]
 rw [hW]
 obtain ⟨v1, j1, e1, a1, b1, c1, d1⟩ := qa5 (2 * m + 1) l j h1 (by omega) (by omega) (by omega)
 rw [e1]
 obtain ⟨v2, j2, e2, a2, b2, c2, d2⟩ := qa5 (2 * m + 1) l j1 (by omega) (by omega) (by omega) (by omega)
 simp only
 rw [e2]
 obtain ⟨v3, j3, e3, a3, b3, c3, d3⟩ := qa5 (2 * m + 1) l j2 (by omega) (by omega) (by omega) (by omega)
 simp only
 rw [e3]
 refine ⟨v1 - m, v2 - m, v3 - m, j3, ?_, ⟨by omega, by omega⟩, ⟨by omega, by omega⟩, ⟨by omega, by omega⟩, by omega, by omega⟩
 simp only
 rw [Ca0 (n := v1 - m) (by omega) (by omega), Ca0 (n := v2 - m) (by omega) (by omega), Ca0 (n := v3 - m) (by omega) (by omega)]
 rfl
def inV (v : V3) : Bool := smb 24 v.x && (smb 24 v.y && smb 24 v.z)
theorem xd4 (v : V3) : inV v = true ↔ Sm 24 v.x ∧ Sm 24 v.y ∧ Sm 24 v.z := by unfold inV; rw [Bool.and_eq_true, Bool.and_eq_true, Vb8, Vb8, Vb8]
theorem Nd9 (v : V3) : Cb2 v = some (b (inV v), []) := by
 unfold Cb2 inV smb
 cases h1 : decide (v.x < -24) <;> cases h2 : decide (v.x > 24) <;> cases h3 : decide (v.y < -24) <;> cases h4 : decide (v.y > 24) <;> cases h5 : decide (v.z < -24) <;> cases h6 : decide (v.z > 24) <;> rfl
theorem ee1 (v : V3) : Pa7 v = inV v := by unfold Pa7; rw [Nd9]; rfl
theorem Od0 (v : V3) : Pa8 v = true := by unfold Pa8; rw [Nd9]; rfl
def sub (a b : V3) : V3 := ⟨a.x - b.x, a.y - b.y, a.z - b.z⟩
theorem xd5 {a b : V3} (ha : inV a = true) (hb : inV b = true) : Da4 a b = sub a b ∧ Sm 48 (sub a b).x ∧ Sm 48 (sub a b).y ∧ Sm 48 (sub a b).z := by
 rw [xd4] at ha hb
 obtain ⟨⟨a1, a2⟩, ⟨a3, a4⟩, a5, a6⟩ := ha
 obtain ⟨⟨b1, b2⟩, ⟨b3, b4⟩, b5, b6⟩ := hb
 unfold Da4 sub
 rw [Ca0 (by omega) (by omega), Ca0 (by omega) (by omega), Ca0 (by omega) (by omega)]
 exact ⟨rfl, ⟨by show _ ≤ a.x - b.x; omega, by show a.x - b.x ≤ _; omega⟩, ⟨by show _ ≤ a.y - b.y; omega, by show a.y - b.y ≤ _; omega⟩, ⟨by show _ ≤ a.z - b.z; omega, by show a.z - b.z ≤ _; omega⟩⟩
theorem Hc0 {a b c : V3} (ha : inV a = true) (hb : inV b = true) (hc : inV c = true) :
  O0 (Da4 b a) (Da4 c a) = E0 (sub b a) (sub c a) ∧ Sm 4608 (E0 (sub b a) (sub c a)).x ∧ Sm 4608 (E0 (sub b a) (sub c a)).y ∧ Sm 4608 (E0 (sub b a) (sub c a)).z := by
 obtain ⟨e1, ⟨u1, u2⟩, ⟨u3, u4⟩, u5, u6⟩ := xd5 hb ha
 obtain ⟨e2, ⟨v1, v2⟩, ⟨v3, v4⟩, v5, v6⟩ := xd5 hc ha
 rw [e1, e2, Vb6]
 generalize sub b a = p at *
 generalize sub c a = q at *
 have h1 := mb u3 u4 v5 v6; have h2 := mb u5 u6 v3 v4; have h3 := mb u5 u6 v1 v2; have h4 := mb u1 u2 v5 v6; have h5 := mb u1 u2 v3 v4; have h6 := mb u3 u4 v1 v2
 have k : Sm 4608 (E0 p q).x ∧ Sm 4608 (E0 p q).y ∧ Sm 4608 (E0 p q).z := by unfold Sm E0; simp only; omega
 obtain ⟨k1, k2, k3⟩ := k
 rw [ta3 (k1.mono (by omega)), ta3 (k2.mono (by omega)), ta3 (k3.mono (by omega))]
 exact ⟨rfl, k1, k2, k3⟩
def Xd7 (a b c : V3) : Pln × Bool :=
 if inV a && (inV b && inV c) then
  if g3 (E0 (sub b a) (sub c a)) = 0 then (⟨⟨0, 0, 0⟩, 0⟩, false)
  else (⟨⟨Int.tdiv (E0 (sub b a) (sub c a)).x (g3 (E0 (sub b a) (sub c a))), Int.tdiv (E0 (sub b a) (sub c a)).y (g3 (E0 (sub b a) (sub c a))), Int.tdiv (E0 (sub b a) (sub c a)).z (g3 (E0 (sub b a) (sub c a)))⟩,
   dot ⟨Int.tdiv (E0 (sub b a) (sub c a)).x (g3 (E0 (sub b a) (sub c a))), Int.tdiv (E0 (sub b a) (sub c a)).y (g3 (E0 (sub b a) (sub c a))), Int.tdiv (E0 (sub b a) (sub c a)).z (g3 (E0 (sub b a) (sub c a)))⟩ a⟩, true)
 else (⟨⟨0, 0, 0⟩, 0⟩, false)
theorem Ed3 (v : V3) : 0 ≤ g3 v := by unfold g3; omega
theorem zc6 (a c d : V3) : za2 a c d = some (.tup [.agg (tP.row (Xd7 a c d).1), b (Xd7 a c d).2], []) := by
 unfold za2 Xd7
 simp only [ee1, Od0]
 cases ha : inV a with
 | false => rfl
 | true =>
  cases hc : inV c with
  | false => rfl
  | true =>
   cases hd : inV d with
   | false => rfl
   | true =>
    obtain ⟨e, k1, k2, k3⟩ := Hc0 ha hc hd
    rw [e]
    generalize E0 (sub c a) (sub d a) = n at *
    have m1 := k1.mono (m := 1000000000000000000) (by omega)
    have m2 := k2.mono (m := 1000000000000000000) (by omega)
    have m3 := k3.mono (m := 1000000000000000000) (by omega)
    rw [Md1 m1 m2 m3, wc5 m1 m2 m3]
    by_cases h0 : g3 n = 0
    ·rw [show (g3 n == 0) = true from by rw [h0]; rfl]
     simp only [Bool.and_self, if_true, h0]
     rfl
    ·have hp := Ed3 n
     have q1 := F4 (g := g3 n) k1 (by omega)
     have q2 := F4 (g := g3 n) k2 (by omega)
     have q3 := F4 (g := g3 n) k3 (by omega)
     rw [show (g3 n == 0) = false from by rw [beq_eq_false_iff_ne]; exact h0, je0 m1 m2 m3 h0]
     simp only [Bool.and_self, if_true, h0, if_false]
     rw [ta3 (q1.mono (by omega)), ta3 (q2.mono (by omega)), ta3 (q3.mono (by omega))]
     have hdot : Ca9 ⟨Int.tdiv n.x (g3 n), Int.tdiv n.y (g3 n), Int.tdiv n.z (g3 n)⟩ a = dot ⟨Int.tdiv n.x (g3 n), Int.tdiv n.y (g3 n), Int.tdiv n.z (g3 n)⟩ a := by
      unfold Ca9
      simp only [jb0, Mb3]
      obtain ⟨⟨a1, a2⟩, ⟨a3, a4⟩, a5, a6⟩ := (xd4 a).1 ha
      have r1 := mb q1.1 q1.2 a1 a2; have r2 := mb q2.1 q2.2 a3 a4; have r3 := mb q3.1 q3.2 a5 a6
      rw [Ca0 (by omega) (by omega)]
      rfl
     rw [hdot]
     rfl
theorem Ed4 (a b c : V3) : ga0 a b c = Xd7 a b c := by unfold ga0; rw [zc6]; rfl
theorem Gb5 (a b c : V3) : ga1 a b c = true := by unfold ga1; rw [zc6]; rfl
theorem Xd8 (l : List Int) : Rd (one r1P) (bb9 l) (fun _ => True) := by
 unfold bb9
 simp only [l9, o2]
 obtain ⟨v1, j1, e1, a1, b1, c1, d1⟩ := qa5 8 l 0 (by omega) (by omega) (by omega) (by omega)
 rw [e1]
 simp only
 obtain ⟨v2, j2, e2, a2, b2, c2, d2⟩ := qa5 17 l j1 (by omega) (by omega) (by omega) (by omega)
 rw [e2]
 simp only
 obtain ⟨x1, x2, x3, j3, e3, _, _, _, c3, d3⟩ := Wc0 8 l j2 (by omega) (by omega) (by omega) (by omega)
 rw [e3]
 simp only
 obtain ⟨y1, y2, y3, j4, e4, _, _, _, c4, d4⟩ := Wc0 8 l j3 (by omega) (by omega) (by omega) (by omega)
 rw [e4]
 simp only
 obtain ⟨z1, z2, z3, j5, e5, _, _, _, c5, d5⟩ := Wc0 8 l j4 (by omega) (by omega) (by omega) (by omega)
 rw [e5]
 simp only [Ed4, Gb5, zc5 _ (show (0 : Int) < 3 by omega) (by omega), o2]
 simp only [Nat.beq_refl, Bool.and_true, o8]
 refine Rd.sl (fun _ => Rd.sl (fun _ => ⟨_, _, rfl, rfl, trivial⟩) fun _ => ?_) (fun _ => ?_)
 ·exact Rd.sl (fun _ => ⟨_, _, rfl, rfl, trivial⟩) fun _ => Rd.sl (fun _ => ⟨_, _, rfl, rfl, trivial⟩) fun _ => ⟨_, _, rfl, rfl, trivial⟩
 ·exact Rd.sl (fun _ => ⟨_, _, rfl, rfl, trivial⟩) fun _ => Rd.sl (fun _ => ⟨_, _, rfl, rfl, trivial⟩) fun _ => ⟨_, _, rfl, rfl, trivial⟩
theorem Xd9 (l : List Int) : sb2 l = true := (Xd8 l).g
theorem Yd0 (p : Pln) (v : V3) : Rd (one r1I) (cb0 p v) (fun _ => True) := by
 unfold cb0
 simp only [fd7, Od0, o8]
 exact Rd.sl (fun _ => ⟨_, _, rfl, rfl, trivial⟩) fun _ => Rd.sl (fun _ => ⟨_, _, rfl, rfl, trivial⟩) fun _ => Rd.sl (fun _ => ⟨_, _, rfl, rfl, trivial⟩) fun _ => Rd.sl (fun _ => ⟨_, _, rfl, rfl, trivial⟩) fun _ => ⟨_, _, rfl, rfl, trivial⟩
theorem Od1 (p : Pln) (v : V3) : sb5 p v = true := (Yd0 p v).g
theorem se8 (P : la6) (hl : P.f7.length ≤ 1000000000) : ∃ t s, lp (oa5 P) ⟨0⟩ = (t, s) ∧ (t = 1 ∨ t = 2 ∨ t = 3) := by
 obtain ⟨l, x1, x2, x3, x4, x5, x6, x7, x8⟩ := P
 refine Ba0 (step := oa5 ⟨l, x1, x2, x3, x4, x5, x6, x7, x8⟩) (mk := fun j (_ : Unit) => (⟨(j : Int)⟩ : ea5)) l.length (fun _ _ => True) (fun t _ => t = 1 ∨ t = 2 ∨ t = 3) hl (fun j a hj _ => ?_) (fun j a hj _ => ?_) 0 () trivial
 ·simp only [oa5, ta4, Od1, Int.toNat_natCast, p6 hj (show l.length ≤ 4611686018427387904 from Nat.le_trans hl (by omega))]
  rw [btD (o5 hj), bt (f9 hj), o8]
  exact Nx.sl (fun _ => Nx.sl (fun _ => .ex (by simp)) fun _ => .nx ⟨(), rfl, trivial⟩) fun _ => .ex (by simp)
 ·simp only [oa5, ta4]
  rw [bfD (by omega)]
  exact ⟨_, rfl, by simp⟩
theorem se9 (l : List V3) (hl : l.length ≤ 1000000000) (a c : Nat) (ha : a < l.length) (hc : c < a) : ∃ t s, lp (oa6 ⟨(a : Int), (c : Int)⟩) ⟨l, 0⟩ = (t, s) ∧ ((t = 1 ∨ t = 2) ∧ s.f7 = l) := by
 refine Ba0 (step := oa6 ⟨(a : Int), (c : Int)⟩) (mk := fun j (_ : Unit) => (⟨l, (j : Int)⟩ : ea6)) c (fun _ _ => True) (fun t s => (t = 1 ∨ t = 2) ∧ s.f7 = l) (by omega) (fun j x hj _ => ?_) (fun j x hj _ => ?_) 0 () trivial
 ·simp only [oa6, ta5, Gb5, Int.toNat_natCast, l9, o2, p6 hj (show c ≤ 4611686018427387904 by omega)]
  rw [btD (o5 hj), bt (f9 ha), bt (f9 (show c < l.length by omega)), bt (f9 (show j < l.length by omega)), o8]
  generalize hP : la6.mk _ _ _ _ _ _ _ _ _ = P3
  obtain ⟨t, s, h1, h2⟩ := se8 P3 (by subst hP; exact hl)
  rw [h1]
  rcases h2 with rfl | rfl | rfl
  ·exact .ex (by simp)
  ·exact .nx ⟨(), rfl, trivial⟩
  ·exact .nx ⟨(), rfl, trivial⟩
 ·simp only [oa6, ta5]
  rw [bfD (by omega)]
  exact ⟨_, rfl, by simp⟩
theorem te0 (l : List V3) (hl : l.length ≤ 1000000000) (a : Nat) (ha : a < l.length) : ∃ t s, lp (oa7 ⟨(a : Int)⟩) ⟨l, 0⟩ = (t, s) ∧ ((t = 1 ∨ t = 2) ∧ s.f7 = l) := by
 refine Ba0 (step := oa7 ⟨(a : Int)⟩) (mk := fun j (_ : Unit) => (⟨l, (j : Int)⟩ : ea7)) a (fun _ _ => True) (fun t s => (t = 1 ∨ t = 2) ∧ s.f7 = l) (by omega) (fun j x hj _ => ?_) (fun j x hj _ => ?_) 0 () trivial
 ·simp only [oa7, ta6, l9, o2, p6 hj (show a ≤ 4611686018427387904 by omega)]
  obtain ⟨t, s, h1, h2, h3⟩ := se9 l hl a j ha hj
  rw [btD (o5 hj), h1]
  rcases h2 with rfl | rfl
  ·exact .ex (by simp)
  ·exact .nx ⟨(), by rw [h3], trivial⟩
 ·simp only [oa7, ta6]
  rw [bfD (by omega)]
  exact ⟨_, rfl, by simp⟩
theorem gb6 (l : List V3) (hl : l.length ≤ 1000000000) : Rd (one r1B) (cb1 l) (fun _ => True) := by
 have key : ∃ t s, lp (oa8 ⟨⟩) ⟨l, 0⟩ = (t, s) ∧ (t = 1 ∨ t = 2) := by
  refine Ba0 (step := oa8 ⟨⟩) (mk := fun j (_ : Unit) => (⟨l, (j : Int)⟩ : ea8)) l.length (fun _ _ => True) (fun t s => (t = 1 ∨ t = 2)) hl (fun j x hj _ => ?_) (fun j x hj _ => ?_) 0 () trivial
  ·simp only [oa8, ta7, l9, o2, p6 hj (show l.length ≤ 4611686018427387904 by omega)]
   obtain ⟨t, s, h1, h2, h3⟩ := te0 l hl j hj
   rw [btD (o5 hj), h1]
   rcases h2 with rfl | rfl
   ·exact .ex (by simp)
   ·exact .nx ⟨(), by rw [h3], trivial⟩
  ·simp only [oa8, ta7]
   rw [bfD (by omega)]
   exact ⟨_, rfl, by simp⟩
 obtain ⟨t, s, h1, h2⟩ := key
 unfold cb1
 simp only [l9, o2]
 rw [h1]
 rcases h2 with rfl | rfl <;> exact ⟨_, _, rfl, rfl, trivial⟩
theorem Od2 (l : List V3) (hl : l.length ≤ 1000000000) : La6 l = true := (gb6 l hl).g
theorem rd8 (l : List V3) (hl : l.length ≤ 1000000000) : Rd (one r1I) (Qa0 l) (fun _ => True) := by
 have h := Za3 (step := ta8 ⟨l⟩) (mk := fun j => (⟨(j : Int)⟩ : S4)) (c := fun v => !inV v) (u := 1) (fin := 2) tV l hl
  (fun j hj => by
   simp only [ta8, na4, Int.toNat_natCast, ee1, Od0, p6 hj (show l.length ≤ 4611686018427387904 by omega)]
   rw [btD (o5 hj), bt (f9 hj), o8])
  (by simp only [ta8, na4]; rw [bfD (W6 (Nat.lt_irrefl _))]) 0 (Nat.zero_le _)
 unfold Qa0
 simp only [l9, o2, G3, Od2 l hl]
 rw [show (⟨0⟩ : S4) = ⟨((0 : Nat) : Int)⟩ from rfl, h]
 refine Rd.sl (fun _ => ⟨_, _, rfl, rfl, trivial⟩) fun _ => ?_
 rw [List.drop_zero]
 cases l.any fun v => !inV v with
 | true => exact ⟨_, _, rfl, rfl, trivial⟩
 | false =>
  show Rd (one r1I) (sl (cb2 l) (some (i 11, [])) (some (i 0, []))) (fun _ => True)
  exact Rd.sl (fun _ => ⟨_, _, rfl, rfl, trivial⟩) fun _ => ⟨_, _, rfl, rfl, trivial⟩
theorem Ed5 (l : List V3) (hl : l.length ≤ 1000000000) : Cb5 l = true := (rd8 l hl).g
theorem Od3 (p : Pln) (l : List V3) (hl : l.length ≤ 1000000000) : Rd (one r1B) (Qa1 p l) (fun _ => True) := by
 have h := Za3 (step := ta9 ⟨l, p.n.x, p.n.y, p.n.z, p.b⟩) (mk := fun j => (⟨(j : Int)⟩ : S5)) (c := fun v => decide (sb4 p v > 0)) (u := 1) (fin := 2) tV l hl
  (fun j hj => by
   simp only [ta9, na5, Int.toNat_natCast, Od1, p6 hj (show l.length ≤ 4611686018427387904 by omega)]
   rw [btD (o5 hj), bt (f9 hj), o8])
  (by simp only [ta9, na5]; rw [bfD (W6 (Nat.lt_irrefl _))]) 0 (Nat.zero_le _)
 unfold Qa1
 simp only [l9, o2]
 rw [show (⟨0⟩ : S5) = ⟨((0 : Nat) : Int)⟩ from rfl, h]
 split <;> exact ⟨_, _, rfl, rfl, trivial⟩
theorem Yd1 (p : Pln) (l : List V3) (hl : l.length ≤ 1000000000) : ea9 p l = true := (Od3 p l hl).g
theorem ke1 (p q : Pln) : Rd (one r1I) (za3 p q) (fun _ => True) := by
 have key : ∃ t s, lp (Z7 ⟨p.n.x, p.n.y, p.n.z, p.b, q.n.x, q.n.y, q.n.z, q.b⟩) ⟨0⟩ = (t, s) ∧ (t = 1 ∨ t = 2 ∨ t = 3) := by
  refine Ba0 (step := Z7 ⟨p.n.x, p.n.y, p.n.z, p.b, q.n.x, q.n.y, q.n.z, q.b⟩) (mk := fun j (_ : Unit) => (⟨(j : Int)⟩ : O2)) 4 (fun _ _ => True) (fun t s => (t = 1 ∨ t = 2 ∨ t = 3)) (by omega) (fun j x hj _ => ?_) (fun j x hj _ => ?_) 0 () trivial
  ·have hn := p6 hj (show 4 ≤ 4611686018427387904 by omega)
   simp only [Z7, ea4, Int.toNat_natCast, hn]
   have hlt : (j : Int) < 4 := by omega
   have hin := f9 hj
   have g : ∀ x1 x2 x3 x4 : Int, ((Nat.ble ((0 + (j * 1)) + 1) 4) && (I0 [(CK.int .i64)] (d8 [(i x1), (i x2), (i x3), (i x4)] (0 + (j * 1))))) = true := by
    intro x1 x2 x3 x4
    match j, hj with
    | 0, _ => rfl
    | 1, _ => rfl
    | 2, _ => rfl
    | 3, _ => rfl
   rw [btD hlt]
   simp only [hin, g, o8]
   exact Nx.sl (fun _ => .ex (by simp)) fun _ => Nx.sl (fun _ => .ex (by simp)) fun _ => .nx ⟨(), rfl, trivial⟩
  ·simp only [Z7, ea4]
   rw [bfD (by omega)]
   exact ⟨_, rfl, by simp⟩
 obtain ⟨t, s, h1, h2⟩ := key
 unfold za3
 simp only
 rw [h1]
 rcases h2 with rfl | rfl | rfl <;> exact ⟨_, _, rfl, rfl, trivial⟩
theorem ke2 (p q : Pln) : kb8 p q = true := (ke1 p q).g
theorem rd9 (l : List Pln) (n : Nat) (h : n ≤ l.length) : l0 (fun k => (fun k => tP.row (gL tP l k)) (0 + k)) (List.range (n - 0)) = bL tP (l.take n) := by
 rw [← Na2, l8, l8, List.length_take, Nat.min_eq_left h, Nat.sub_zero]
 apply List.map_congr_left
 intro k hk
 rw [List.mem_range] at hk
 show tP.row (gL tP l (0 + k)) = tP.row (gL tP (l.take n) k)
 congr 1
 simp [gL, List.getD_eq_getElem?_getD, List.getElem?_take, hk]
theorem sd0 (l : List Pln) (n : Nat) : l0 (fun k => (fun k => tP.row (gL tP l k)) (n + k)) (List.range (l.length - n)) = bL tP (l.drop n) := by
 rw [← Na2, l8, l8, List.length_drop]
 apply List.map_congr_left
 intro k hk
 show tP.row (gL tP l (n + k)) = tP.row (gL tP (l.drop n) k)
 rw [Wb0]
theorem Xb2 (l : List Pln) (x1 x2 x3 x4 : Int) : app (bL tP l) [[i x1, i x2, i x3, i x4]] = bL tP (l ++ [⟨⟨x1, x2, x3⟩, x4⟩]) := Ba9 tP l [⟨⟨x1, x2, x3⟩, x4⟩]
def Wc1 (x : List Pln) (y : Pln) (n : Nat) : List Pln := x.take n ++ (y :: x.drop n)
theorem tb4 {l : List Pln} {n : Nat} {r : List (List b7)} {P : List Pln → Prop} (hn : n = l.length) (hr : r = bL tP l) (h : P l) : Rd (one (r1L tP)) (some (.sl 0 0 n 0, [⟨50, 4, r, true, false, 0⟩])) P := by
 subst hn hr
 exact ⟨_, l, rfl, Ob1 l, h⟩
theorem Od4 (x : List Pln) (y : Pln) (hx : x.length ≤ 1000000) : Rd (one (r1L tP)) (ob0 x y) (fun r => r ≠ [] ∧ r.length ≤ x.length + 1 ∧ ∀ p ∈ r, p = y ∨ p ∈ x) := by
 have h := hb6 (step := wa0 ⟨x, y.n.x, y.n.y, y.n.z, y.b⟩) (mk := fun j => (⟨(j : Int)⟩ : fa0)) (c := fun p => !decide (za4 p y < 0)) (u := 1) (fin := 2) tP x (by omega)
  (fun j hj => by
   simp only [wa0, za7, Int.toNat_natCast, ke2, p6 hj (show x.length ≤ 4611686018427387904 by omega)]
   rw [btD (o5 hj), bt (f9 hj), o8]
   cases decide (za4 (gL tP x j) y < 0) <;> rfl)
  (by simp only [wa0, za7]; rw [bfD (W6 (Nat.lt_irrefl _))]) 0 (Nat.zero_le _)
 rw [List.drop_zero] at h
 have key : ∃ t n, lp (wa0 ⟨x, y.n.x, y.n.y, y.n.z, y.b⟩) ⟨0⟩ = (t, ⟨((n : Nat) : Int)⟩) ∧ (t = 1 ∨ t = 2) ∧ n ≤ x.length := by
  rw [show (⟨0⟩ : fa0) = ⟨((0 : Nat) : Int)⟩ from rfl, h]
  split
  ·exact ⟨1, _, rfl, .inl rfl, by rw [Nat.zero_add]; exact List.findIdx_le_length⟩
  ·exact ⟨2, _, rfl, .inr rfl, Nat.le_refl _⟩
 obtain ⟨t, n, h1, h2, h3⟩ := key
 have hlo : inB (n : Int) (x.length + 1) = true := f9 (by omega)
 have hd : (bL tP (x.take n)).length = n := by rw [← l6, I5, List.length_take]; omega
 have hmem : ∀ p ∈ Wc1 x y n, p = y ∨ p ∈ x := fun p hp => by
  unfold Wc1 at hp
  rcases List.mem_append.1 hp with hp | hp
  ·exact .inr (List.mem_of_mem_take hp)
  ·rcases List.mem_cons.1 hp with hp | hp
   ·exact .inl hp
   ·exact .inr (List.mem_of_mem_drop hp)
 have hne : Wc1 x y n ≠ [] := by unfold Wc1; simp
 have hlen : (Wc1 x y n).length = x.length + 1 := by unfold Wc1; simp only [List.length_append, List.length_cons, List.length_take, List.length_drop]; omega
 have lt : len (bL tP (x.take n)) = n := by rw [l6]; exact hd
 have ld : len (bL tP (x.drop n)) = x.length - n := by rw [I5, List.length_drop]
 have b1 : (Nat.beq 1 1 && Nat.ble ((1 + (x.length - n)) * 32) room) = true := by rw [ba6 (by omega)]; rfl
 have b2 : (Nat.beq 0 0 && Nat.ble ((0 + n) * 32) room) = true := by rw [ba6 (by omega)]; rfl
 have e0 : app [] (bL tP (x.take n)) = bL tP (x.take n) := rfl
 have b3 : (Nat.beq (0 + n) n && Nat.ble (((0 + n) + 1) * 32) room) = true := by rw [ba6 (by omega), Nat.zero_add, Nat.beq_refl]; rfl
 have l3 : len (bL tP (x.take n ++ [y])) = n + 1 := by rw [I5, List.length_append, List.length_take]; simp only [List.length_singleton]; omega
 have b4 : (Nat.beq ((0 + n) + 1) (n + 1) && Nat.ble ((((0 + n) + 1) + (x.length - n)) * 32) room) = true := by rw [ba6 (by omega), Nat.zero_add, Nat.beq_refl]; rfl
 have z0 : ∀ {k : Nat}, Nat.beq k 0 = true → k = 0 := fun {k} h => Nat.eq_of_beq_eq_true h
 have fin : ∀ m r, m = x.length + 1 → r = bL tP (Wc1 x y n) → Rd (one (r1L tP)) (some (.sl 0 0 m 0, [⟨50, 4, r, true, false, 0⟩])) (fun r => r ≠ [] ∧ r.length ≤ x.length + 1 ∧ ∀ p ∈ r, p = y ∨ p ∈ x) :=
  fun m r hm hr => tb4 (by rw [hlen]; exact hm) hr ⟨hne, by omega, hmem⟩
 have tail : Rd (one (r1L tP)) (sl (Nat.beq n 0) (sl (Nat.beq (x.length - n) 0) (some ((.sl 0 0 1 0), [⟨50, 4, [[(i y.n.x), (i y.n.y), (i y.n.z), (i y.b)]], true, false, 0⟩]))
   (some ((.sl 0 0 (1 + (x.length - n)) 0), [⟨50, 4, (app [[(i y.n.x), (i y.n.y), (i y.n.z), (i y.b)]] (bL tP (x.drop n))), true, false, 0⟩])))
   (sl (Nat.beq (x.length - n) 0) (some ((.sl 0 0 ((0 + n) + 1) 0), [⟨50, 4, bL tP (x.take n ++ [y]), true, false, 0⟩]))
    (some ((.sl 0 0 (((0 + n) + 1) + (x.length - n)) 0), [⟨50, 4, (app (bL tP (x.take n ++ [y])) (bL tP (x.drop n))), true, false, 0⟩])))) (fun r => r ≠ [] ∧ r.length ≤ x.length + 1 ∧ ∀ p ∈ r, p = y ∨ p ∈ x) := by
  refine Rd.sl (fun q1 => Rd.sl (fun q2 => ?_) (fun q2 => ?_)) (fun q1 => Rd.sl (fun q2 => ?_) (fun q2 => ?_))
  ·have := z0 q1; have := z0 q2
   refine fin _ _ (by omega) ?_
   have : x = [] := List.eq_nil_of_length_eq_zero (by omega)
   subst this
   rw [show n = 0 by omega]; rfl
  ·have := z0 q1; subst this
   exact fin _ _ (by omega) rfl
  ·have := z0 q2
   refine fin _ _ (by omega) ?_
   unfold Wc1
   rw [show x.drop n = [] from List.drop_eq_nil_of_le (by omega)]
  ·refine fin _ _ (by omega) ?_
   rw [Ba9]
   unfold Wc1
   rw [List.append_assoc]; rfl
 have same : ∀ p : Pln, (p.n.x == y.n.x && (p.n.y == y.n.y && (p.n.z == y.n.z && (p.b == y.b && true)))) = true → n < x.length → Rd (one (r1L tP)) (some (eL tP x, [])) (fun r => r ≠ [] ∧ r.length ≤ x.length + 1 ∧ ∀ p ∈ r, p = y ∨ p ∈ x) := fun p _ hn =>
  ⟨_, x, rfl, wd4 tP x, List.ne_nil_of_length_pos (by omega), Nat.le_succ _, fun p hp => Or.inr hp⟩
 unfold ob0
 simp only [l9, o2]
 rw [h1]
 simp only [Int.toNat_natCast, rd9 x n h3, sd0, lt, ld, b1, b2, e0, b3, Xb2, l3, b4, hlo, o8]
 have main : Rd (one (r1L tP)) (sl (decide ((n : Int) < (x.length : Int))) (sl (inB (n : Int) x.length) (sl (((gL tP x n).n.x == y.n.x) && (((gL tP x n).n.y == y.n.y) && (((gL tP x n).n.z == y.n.z) && (((gL tP x n).b == y.b) && true)))) (some (eL tP x, []))
   (sl (Nat.beq n 0) (sl (Nat.beq (x.length - n) 0) (some ((.sl 0 0 1 0), [⟨50, 4, [[(i y.n.x), (i y.n.y), (i y.n.z), (i y.b)]], true, false, 0⟩]))
   (some ((.sl 0 0 (1 + (x.length - n)) 0), [⟨50, 4, (app [[(i y.n.x), (i y.n.y), (i y.n.z), (i y.b)]] (bL tP (x.drop n))), true, false, 0⟩])))
   (sl (Nat.beq (x.length - n) 0) (some ((.sl 0 0 ((0 + n) + 1) 0), [⟨50, 4, bL tP (x.take n ++ [y]), true, false, 0⟩]))
    (some ((.sl 0 0 (((0 + n) + 1) + (x.length - n)) 0), [⟨50, 4, (app (bL tP (x.take n ++ [y])) (bL tP (x.drop n))), true, false, 0⟩]))))) none)
   (sl (Nat.beq n 0) (sl (Nat.beq (x.length - n) 0) (some ((.sl 0 0 1 0), [⟨50, 4, [[(i y.n.x), (i y.n.y), (i y.n.z), (i y.b)]], true, false, 0⟩]))
   (some ((.sl 0 0 (1 + (x.length - n)) 0), [⟨50, 4, (app [[(i y.n.x), (i y.n.y), (i y.n.z), (i y.b)]] (bL tP (x.drop n))), true, false, 0⟩])))
   (sl (Nat.beq (x.length - n) 0) (some ((.sl 0 0 ((0 + n) + 1) 0), [⟨50, 4, bL tP (x.take n ++ [y]), true, false, 0⟩]))
    (some ((.sl 0 0 (((0 + n) + 1) + (x.length - n)) 0), [⟨50, 4, (app (bL tP (x.take n ++ [y])) (bL tP (x.drop n))), true, false, 0⟩]))))) (fun r => r ≠ [] ∧ r.length ≤ x.length + 1 ∧ ∀ p ∈ r, p = y ∨ p ∈ x) := by
  by_cases hn : n < x.length
  ·rw [btD (o5 hn), bt (f9 hn)]
   exact Rd.sl (fun q => same _ q hn) fun _ => tail
  ·rw [bfD (W6 hn)]
   exact tail
 rcases h2 with rfl | rfl
 ·exact main
 ·exact main
end Go.Ev.Ce
